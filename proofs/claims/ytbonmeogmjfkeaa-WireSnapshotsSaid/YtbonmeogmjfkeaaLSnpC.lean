/-
  WireSnapshots: for every snapshot, every table and every text the law answers true and leaves its arguments alone. No condition.
-/
import Derived.Test.YtbonmeogmjfkeaaRx
import Derived.Test.YtbonmeogmjfkeaaSx
import Derived.Test.YtbonmeogmjfkeaaSp
import Derived.Test.YtbonmeogmjfkeaaSg
import Derived.Test.YtbonmeogmjfkeaaPv
import Derived.Test.YtbonmeogmjfkeaaKp
import Derived.Test.YtbonmeogmjfkeaaOp
namespace Go.Proofs.Ytbonmeogmjfkeaa
open Go.RowKit Wm Mm
set_option linter.unusedVariables false

def snapOf (res : Except Int Snap) : Snap := match res with | .ok q => q | .error _ => ⟨0, 0, ⟨[], [], []⟩, []⟩
def tabOf (res : Except Int Tab) : Tab := match res with | .ok q => q | .error _ => ⟨[], [], 0⟩
def errS {α : Type} (res : Except Int α) : Int := match res with | .ok _ => 0 | .error z => z
theorem GotSnap.plain {w : World} {res : Except Int Snap} {e : Ending} {w' : World} (h : GotSnap w res e w') : ∃ x y z, e = .returned (.tuple #[vSnap (snapOf res).index (snapOf res).term x y z (snapOf res).data, .int .i64 (errS res)]) ∧ Config3F w.heap.size w' x y z (snapOf res).conf ∧ Below w.heap.size w w' := by
  cases res with
  | ok q => exact h
  | error z => exact ⟨_, _, _, h.1, Config3F.nil _ _, h.2⟩
theorem GotTab.plain {w : World} {res : Except Int Tab} {e : Ending} {w' : World} (h : GotTab w res e w') : ∃ x y, e = .returned (.tuple #[.agg #[x, y, .int .i64 (tabOf res).time], .int .i64 (errS res)]) ∧ TabF w.heap.size w' x y (tabOf res) ∧ Below w.heap.size w w' := by
  cases res with
  | ok q => exact h
  | error z => exact ⟨_, _, h.1, TabF.nil _ _ _, h.2⟩
theorem known_tab : putTabB ⟨[], [], 0⟩ = [0, 0, 0] := by decide +kernel
theorem known_tabE : putTabE ⟨[], [], 0⟩ = 0 := by decide +kernel

set_option maxHeartbeats 4000000 in
set_option maxRecDepth 100000 in
theorem law_snapshots (index term : Int) (a b d : Value) (c : Conf) (data : List UInt8) (vp vs : Value) (t : Tab) (s : List UInt8) (w : World) (hc : Config3 w a b d c) (ht : Table2 w vp vs t) (hs : s.length ≤ 9223372036854775807) :
    Calls Try.prog 11 #[vSnap index term a b d data, .agg #[vp, vs, .int .i64 t.time], str s] w fun e w' => e = .returned (.bool true) ∧ Below w.heap.size w w' := by
  have K1 : Hid (∀ w', Below w.heap.size w w' → Calls Try.prog 60 #[vSnap index term a b d data] w' fun e w'' => e = .returned (.tuple #[str (putSnapB index term c data), .int .i64 (putSnapE index term c data)]) ∧ Below w'.heap.size w' w'') := fun w' h => ref_putSnapshot index term a b d c data w' (hc.mono h)
  have K2 : Hid (∀ w', Below w.heap.size w w' → Calls Try.prog 61 #[.agg #[vp, vs, .int .i64 t.time]] w' fun e w'' => e = .returned (.tuple #[str (putTabB t), .int .i64 (putTabE t)]) ∧ Below w'.heap.size w' w'') := fun w' h => ref_putTable vp vs t w' (ht.mono h)
  have K3 : Hid (∀ w', Below w.heap.size w w' → Calls Try.prog 62 #[vSnap index term a b d data] w' fun e w'' => e = .returned (.tuple #[str (putSnapB index term c data), .int .i64 (putSnapE index term c data)]) ∧ Below w'.heap.size w' w'') := fun w' h => wire_putSnapshot index term a b d c data w' (hc.mono h)
  have K4 := Lib.hid (fun w' => wire_getSnapshot s w' hs)
  have K5 : Hid (∀ w', Calls Try.prog 64 #[str s] w' (GotSnap w' (full (rdSnap s)))) := fun w' => by
    have := ref_getSnapshot s w' hs
    rwa [snap_same] at this
  have K6 : Hid (∀ w' x y z x' y' z' q, Config3 w' x y z (Snap.conf q) → Config3 w' x' y' z' (Snap.conf q) → Calls Try.prog 65 #[vSnap q.index q.term x y z q.data, vSnap q.index q.term x' y' z' q.data] w' fun e w'' => e = .returned (.bool true) ∧ Below w'.heap.size w' w'') := fun w' x y z x' y' z' q h h' => ref_sameSnapshot q.index q.term x y z x' y' z' q.conf q.data w' h h'
  have K7 : Hid (∀ w', Below w.heap.size w w' → Calls Try.prog 66 #[.agg #[vp, vs, .int .i64 t.time]] w' fun e w'' => e = .returned (.tuple #[str (putTabB t), .int .i64 (putTabE t)]) ∧ Below w'.heap.size w' w'') := fun w' h => wire_putTable vp vs t w' (ht.mono h)
  have K8 := Lib.hid (fun w' => wire_getTable s w' hs)
  have K9 := Lib.hid (fun w' => ref_getTable s w' hs)
  have K10 : Hid (∀ w' x y x' y' q, Table2 w' x y q → Table2 w' x' y' q → Calls Try.prog 69 #[.agg #[x, y, .int .i64 q.time], .agg #[x', y', .int .i64 q.time]] w' fun e w'' => e = .returned (.bool true) ∧ Below w'.heap.size w' w'') := fun w' x y x' y' q h h' => ref_sameTable x y x' y' q w' h h'
  have K11 : Hid (∀ w', Calls Try.prog 66 #[.agg #[.slice none 0 0, .slice none 0 0, .int .i64 0]] w' fun e w'' => e = .returned (.tuple #[str [0, 0, 0], .int .i64 0]) ∧ Below w'.heap.size w' w'') := fun w' => by
    have := wire_putTable (.slice none 0 0) (.slice none 0 0) ⟨[], [], 0⟩ w' (TabF.nil w'.heap.size w' 0).table2
    rwa [known_tab, known_tabE] at this
  obtain ⟨ao1, cp1, rfl, _⟩ := len_of_Ints hc.v
  obtain ⟨ao2, cp2, rfl, _⟩ := len_of_Ints hc.n
  obtain ⟨ao3, cp3, rfl, _⟩ := len_of_Ints hc.l
  obtain ⟨po, pc, rfl, _⟩ := ht.p.slice
  obtain ⟨so, sc, rfl, _⟩ := ht.s.slice
  obtain ⟨p1, hp1⟩ := hide (putSnapB index term c data)
  obtain ⟨z1, hz1⟩ := hide (putSnapE index term c data)
  rw [hp1.out, hz1.out] at K1 K3
  obtain ⟨p2, hp2⟩ := hide (putTabB t)
  obtain ⟨z2, hz2⟩ := hide (putTabE t)
  rw [hp2.out, hz2.out] at K2 K7
  obtain ⟨R, hR⟩ := hide (full (rdSnap s))
  rw [hR.out] at K4 K5
  obtain ⟨T, hT⟩ := hide (full (rdTab s))
  rw [hT.out] at K8 K9
  obtain ⟨tm, htm⟩ := hide t.time
  rw [htm.out] at K2 K7
  rw [htm.out]
  clear hs hc ht
  obtain ⟨U0, hU⟩ := hide (w.alloc (.cells #[.int .i64 index, .int .i64 term, .slice ao1 c.v.length cp1, .slice ao2 c.n.length cp2, .slice ao3 c.l.length cp3, str data] 105))
  obtain ⟨V0, hV⟩ := hide (U0.alloc (.cells #[.slice po t.pairs.length pc, .slice so t.sess.length sc, .int .i64 tm] 109))
  obtain ⟨B0, hB0⟩ := hide w.heap.size
  have hs0 : U0.heap.size = B0 + 1 := by rw [← hU.out, ← hB0.out]; simp
  have H0 := Lib.hid (((Keep.refl w).lay hU.out hB0.out).lay hV.out hs0)
  clear hs0
  have c0 := cell_n H0.out.tail.at0 0 (v := .int .i64 index) rfl
  have c1 := cell_n H0.out.tail.at0 1 (v := .int .i64 term) rfl
  have c2 := cell_n H0.out.tail.at0 2 (v := .slice ao1 c.v.length cp1) rfl
  have c3 := cell_n H0.out.tail.at0 3 (v := .slice ao2 c.n.length cp2) rfl
  have c4 := cell_n H0.out.tail.at0 4 (v := .slice ao3 c.l.length cp3) rfl
  have c5 := cell_n H0.out.tail.at0 5 (v := str data) rfl
  go_enter Try.func11, Try.ntmps11
  go_upto_region 1 with fail
  rw [hU.out, hV.out, hB0.out]
  go_wp2_with fail
  refine (K1.out _ H0.out.1).mono ?_
  rintro e V1 ⟨rfl, hb1⟩
  have H1 := Lib.hid (H0.out.step hb1)
  clear hb1 c0 c1 c2 c3 c4 c5
  have c0 := cell_n H1.out.at0 0 (v := .slice po t.pairs.length pc) rfl
  have c1 := cell_n H1.out.at0 1 (v := .slice so t.sess.length sc) rfl
  have c2 := cell_n H1.out.at0 2 (v := .int .i64 tm) rfl
  go_wp2_with fail
  refine (K2.out _ H1.out.1).mono ?_
  rintro e V2 ⟨rfl, hb1⟩
  have H2 := Lib.hid (H1.out.step hb1)
  clear hb1 c0 c1 c2
  have c0 := cell_n H2.out.tail.at0 0 (v := .int .i64 index) rfl
  have c1 := cell_n H2.out.tail.at0 1 (v := .int .i64 term) rfl
  have c2 := cell_n H2.out.tail.at0 2 (v := .slice ao1 c.v.length cp1) rfl
  have c3 := cell_n H2.out.tail.at0 3 (v := .slice ao2 c.n.length cp2) rfl
  have c4 := cell_n H2.out.tail.at0 4 (v := .slice ao3 c.l.length cp3) rfl
  have c5 := cell_n H2.out.tail.at0 5 (v := str data) rfl
  go_wp2_with fail
  refine (K3.out _ H2.out.1).mono ?_
  rintro e V3 ⟨rfl, hb1⟩
  have H3 := Lib.hid (H2.out.step hb1)
  clear hb1 c0 c1 c2 c3 c4 c5
  go_wp2_with fail
  refine (K4.out _).mono ?_
  intro e V4 hp
  obtain ⟨x4, y4, w4, rfl, hc4, hb1⟩ := GotSnap.plain hp
  obtain ⟨q, hq⟩ := hide (snapOf R)
  obtain ⟨er, her⟩ := hide (errS R)
  rw [hq.out] at hc4
  rw [hq.out, her.out]
  obtain ⟨ax4, px4, rfl⟩ := hc4.v.len
  obtain ⟨ay4, py4, rfl⟩ := hc4.n.len
  obtain ⟨az4, pz4, rfl⟩ := hc4.l.len
  obtain ⟨B4, hB4⟩ := hide V4.heap.size
  obtain ⟨U4, hU4⟩ := hide (V4.alloc (.cells #[.int .i64 (q.index : Nat), .int .i64 (q.term : Nat), .slice ax4 q.conf.v.length px4, .slice ay4 q.conf.n.length py4, .slice az4 q.conf.l.length pz4, str q.data] 105))
  have H4 := Lib.hid ((H3.out.step hb1).lay hU4.out hB4.out)
  have Hc4 : Hid (Config3 U4 (.slice ax4 q.conf.v.length px4) (.slice ay4 q.conf.n.length py4) (.slice az4 q.conf.l.length pz4) q.conf) := by show Config3 _ _ _ _ _; rw [← hU4.out]; exact hc4.conf.mono ((Below.refl _ _).alloc (Nat.le_refl _) _)
  clear hb1 hc4 hp
  go_upto_region 5 with fail
  rw [hU4.out, hB4.out]
  go_wp2_with fail
  refine (K5.out _).mono ?_
  intro e V5 hp
  obtain ⟨x5, y5, w5, rfl, hc5, hb1⟩ := GotSnap.plain hp
  rw [hq.out] at hc5
  rw [hq.out, her.out]
  obtain ⟨ax5, px5, rfl⟩ := hc5.v.len
  obtain ⟨ay5, py5, rfl⟩ := hc5.n.len
  obtain ⟨az5, pz5, rfl⟩ := hc5.l.len
  obtain ⟨B5, hB5⟩ := hide V5.heap.size
  obtain ⟨U5, hU5⟩ := hide (V5.alloc (.cells #[.int .i64 (q.index : Nat), .int .i64 (q.term : Nat), .slice ax5 q.conf.v.length px5, .slice ay5 q.conf.n.length py5, .slice az5 q.conf.l.length pz5, str q.data] 105))
  have H5 := Lib.hid ((H4.out.step hb1).lay hU5.out hB5.out)
  have Hc5 : Hid (Config3 U5 (.slice ax5 q.conf.v.length px5) (.slice ay5 q.conf.n.length py5) (.slice az5 q.conf.l.length pz5) q.conf) := by show Config3 _ _ _ _ _; rw [← hU5.out]; exact hc5.conf.mono ((Below.refl _ _).alloc (Nat.le_refl _) _)
  have Hc4b : Hid (Config3 U5 (.slice ax4 q.conf.v.length px4) (.slice ay4 q.conf.n.length py4) (.slice az4 q.conf.l.length pz4) q.conf) := by show Config3 _ _ _ _ _; rw [← hU5.out]; exact (Hc4.out.mono hb1).mono ((Below.refl _ _).alloc (Nat.le_refl _) _)
  clear hb1 hc5 hp
  go_upto_region 6 with fail
  rw [hU5.out, hB5.out]
  have c0 := cell_n H5.out.tail.at0 0 (v := .int .i64 (q.index : Nat)) rfl
  have c1 := cell_n H5.out.tail.at0 1 (v := .int .i64 (q.term : Nat)) rfl
  have c2 := cell_n H5.out.tail.at0 2 (v := .slice ax4 q.conf.v.length px4) rfl
  have c3 := cell_n H5.out.tail.at0 3 (v := .slice ay4 q.conf.n.length py4) rfl
  have c4 := cell_n H5.out.tail.at0 4 (v := .slice az4 q.conf.l.length pz4) rfl
  have c5 := cell_n H5.out.tail.at0 5 (v := str q.data) rfl
  have d0 := cell_n H5.out.at0 0 (v := .int .i64 (q.index : Nat)) rfl
  have d1 := cell_n H5.out.at0 1 (v := .int .i64 (q.term : Nat)) rfl
  have d2 := cell_n H5.out.at0 2 (v := .slice ax5 q.conf.v.length px5) rfl
  have d3 := cell_n H5.out.at0 3 (v := .slice ay5 q.conf.n.length py5) rfl
  have d4 := cell_n H5.out.at0 4 (v := .slice az5 q.conf.l.length pz5) rfl
  have d5 := cell_n H5.out.at0 5 (v := str q.data) rfl
  go_wp2_with fail
  refine (K6.out _ _ _ _ _ _ _ q Hc4b.out Hc5.out).mono ?_
  rintro e V6 ⟨rfl, hb1⟩
  have H6 := Lib.hid (H5.out.step hb1)
  clear hb1 c0 c1 c2 c3 c4 c5 d0 d1 d2 d3 d4 d5
  have c0 := cell_n H6.out.tail.tail.at0 0 (v := .slice po t.pairs.length pc) rfl
  have c1 := cell_n H6.out.tail.tail.at0 1 (v := .slice so t.sess.length sc) rfl
  have c2 := cell_n H6.out.tail.tail.at0 2 (v := .int .i64 tm) rfl
  go_wp2_with fail
  refine (K7.out _ H6.out.1).mono ?_
  rintro e V7 ⟨rfl, hb1⟩
  have H7 := Lib.hid (H6.out.step hb1)
  clear hb1 c0 c1 c2
  have c0 := cell_n H7.out.tail.tail.tail.at0 0 (v := .int .i64 index) rfl
  have c1 := cell_n H7.out.tail.tail.tail.at0 1 (v := .int .i64 term) rfl
  have c2 := cell_n H7.out.tail.tail.tail.at0 2 (v := .slice ao1 c.v.length cp1) rfl
  have c3 := cell_n H7.out.tail.tail.tail.at0 3 (v := .slice ao2 c.n.length cp2) rfl
  have c4 := cell_n H7.out.tail.tail.tail.at0 4 (v := .slice ao3 c.l.length cp3) rfl
  have c5 := cell_n H7.out.tail.tail.tail.at0 5 (v := str data) rfl
  go_wp2_with fail
  refine (K1.out _ H7.out.1).mono ?_
  rintro e V8 ⟨rfl, hb1⟩
  have H8 := Lib.hid (H7.out.step hb1)
  clear hb1 c0 c1 c2 c3 c4 c5
  have c0 := cell_n H8.out.tail.tail.at0 0 (v := .slice po t.pairs.length pc) rfl
  have c1 := cell_n H8.out.tail.tail.at0 1 (v := .slice so t.sess.length sc) rfl
  have c2 := cell_n H8.out.tail.tail.at0 2 (v := .int .i64 tm) rfl
  go_wp2_with fail
  refine (K2.out _ H8.out.1).mono ?_
  rintro e V9 ⟨rfl, hb1⟩
  have H9 := Lib.hid (H8.out.step hb1)
  clear hb1 c0 c1 c2
  go_wp2_with fail
  refine (K8.out _).mono ?_
  intro e V10 hp
  obtain ⟨x10, y10, rfl, hc10, hb1⟩ := GotTab.plain hp
  obtain ⟨g, hg⟩ := hide (tabOf T)
  obtain ⟨et, het⟩ := hide (errS T)
  rw [hg.out] at hc10
  rw [hg.out, het.out]
  obtain ⟨tx10, ux10, rfl⟩ := hc10.p.slice
  obtain ⟨ty10, uy10, rfl⟩ := hc10.s.slice
  obtain ⟨B10, hB10⟩ := hide V10.heap.size
  obtain ⟨U10, hU10⟩ := hide (V10.alloc (.cells #[.slice tx10 g.pairs.length ux10, .slice ty10 g.sess.length uy10, .int .i64 g.time] 109))
  have H10 := Lib.hid ((H9.out.step hb1).lay hU10.out hB10.out)
  have Hc10 : Hid (Table2 U10 (.slice tx10 g.pairs.length ux10) (.slice ty10 g.sess.length uy10) g) := by show Table2 _ _ _ _; rw [← hU10.out]; exact hc10.table2.mono ((Below.refl _ _).alloc (Nat.le_refl _) _)
  clear hb1 hc10 hp
  go_upto_region 11 with fail
  rw [hU10.out, hB10.out]
  go_wp2_with fail
  refine (K9.out _).mono ?_
  intro e V11 hp
  obtain ⟨x11, y11, rfl, hc11, hb1⟩ := GotTab.plain hp
  rw [hg.out] at hc11
  rw [hg.out, het.out]
  obtain ⟨tx11, ux11, rfl⟩ := hc11.p.slice
  obtain ⟨ty11, uy11, rfl⟩ := hc11.s.slice
  obtain ⟨B11, hB11⟩ := hide V11.heap.size
  obtain ⟨U11, hU11⟩ := hide (V11.alloc (.cells #[.slice tx11 g.pairs.length ux11, .slice ty11 g.sess.length uy11, .int .i64 g.time] 109))
  have H11 := Lib.hid ((H10.out.step hb1).lay hU11.out hB11.out)
  have Hc11 : Hid (Table2 U11 (.slice tx11 g.pairs.length ux11) (.slice ty11 g.sess.length uy11) g) := by show Table2 _ _ _ _; rw [← hU11.out]; exact hc11.table2.mono ((Below.refl _ _).alloc (Nat.le_refl _) _)
  have Hc10b : Hid (Table2 U11 (.slice tx10 g.pairs.length ux10) (.slice ty10 g.sess.length uy10) g) := by show Table2 _ _ _ _; rw [← hU11.out]; exact (Hc10.out.mono hb1).mono ((Below.refl _ _).alloc (Nat.le_refl _) _)
  clear hb1 hc11 hp
  go_upto_region 12 with fail
  rw [hU11.out, hB11.out]
  have c0 := cell_n H11.out.tail.at0 0 (v := .slice tx10 g.pairs.length ux10) rfl
  have c1 := cell_n H11.out.tail.at0 1 (v := .slice ty10 g.sess.length uy10) rfl
  have c2 := cell_n H11.out.tail.at0 2 (v := .int .i64 g.time) rfl
  have d0 := cell_n H11.out.at0 0 (v := .slice tx11 g.pairs.length ux11) rfl
  have d1 := cell_n H11.out.at0 1 (v := .slice ty11 g.sess.length uy11) rfl
  have d2 := cell_n H11.out.at0 2 (v := .int .i64 g.time) rfl
  go_wp2_with fail
  refine (K10.out _ _ _ _ _ g Hc10b.out Hc11.out).mono ?_
  rintro e V12 ⟨rfl, hb1⟩
  have H12 := Lib.hid (H11.out.step hb1)
  clear hb1 c0 c1 c2 d0 d1 d2
  go_wp2_with fail
  refine (K11.out _).mono ?_
  rintro e V13 ⟨rfl, hb1⟩
  have H13 := Lib.hid (H12.out.step hb1)
  clear hb1 
  go_wp2_with fail
  go_ret
  exact ⟨rfl, H13.out.1⟩
end Go.Proofs.Ytbonmeogmjfkeaa

namespace Go.Proofs.Ytbonmeogmjfkeaa
open Go.ChangeShapes Go.WideShapes Go.ChangeAt Go.RowKit Wm Mm Opn
open Go.ChangeMaps (open_string)
set_option linter.unusedVariables false

theorem cells_snap : Try.prog.cellsOf 105 = 6 := by kernel_rfl
theorem cells_tab : Try.prog.cellsOf 109 = 3 := by kernel_rfl
theorem cells_pair : Try.prog.cellsOf 188 = 3 := by kernel_rfl
theorem cells_sess : Try.prog.cellsOf 192 = 7 := by kernel_rfl
theorem cells_res : Try.prog.cellsOf 190 = 4 := by kernel_rfl
theorem cells_strs : Try.prog.cellsOf 62 = 1 := by kernel_rfl
theorem cells_pairs : Try.prog.cellsOf 106 = 1 := by kernel_rfl
theorem cells_sessions : Try.prog.cellsOf 107 = 1 := by kernel_rfl
theorem opens_strs : Opens Try.prog 62 (fun w cs (l : List (List UInt8)) => ∃ v, cs = [v] ∧ Strs w v l) (fun _ => True) :=
  (opens_slice Try.underlying62 cells_str (by decide) (opens_str Try.underlying9)).imp (fun w cs y h => by
    obtain ⟨v, rfl, ao, cap, rfl, h1, h2⟩ := h
    refine ⟨_, rfl, ao, cap, rfl, fun hne => ?_, h2⟩
    obtain ⟨b, off, rfl, h3⟩ := h1 hne
    refine ⟨b, off, rfl, fun j x hj => ?_⟩
    obtain ⟨vs, _, rfl, h5⟩ := h3 j x hj
    have := h5 0 _ rfl
    simpa using this) (fun _ _ => trivial)
set_option maxRecDepth 100000 in
theorem opens_pair : Opens Try.prog 188 (fun _ cs (p : PairP) => cs = rowPair p) (fun _ => True) := by
  intro H enc w base spare held n cs x hx
  obtain ⟨hl, hg⟩ := struct_at Try.underlying188 hx
  rw [cells_pair] at hl
  match cs, hl with
  | [c0, c1, c2], _ =>
    obtain ⟨m0, y0, h0, _⟩ := hg 0 _ rfl
    obtain ⟨m1, y1, h1, _⟩ := hg 1 _ rfl
    obtain ⟨m2, y2, h2, _⟩ := hg 2 _ rfl
    have h0 : DataW.trod enc Try.prog w base spare held m0 9 (([c0, c1, c2].drop 0).take (Try.prog.cellsOf 9)) = some y0 := h0
    have h1 : DataW.trod enc Try.prog w base spare held m1 9 (([c0, c1, c2].drop 1).take (Try.prog.cellsOf 9)) = some y1 := h1
    have h2 : DataW.trod enc Try.prog w base spare held m2 3 (([c0, c1, c2].drop 2).take (Try.prog.cellsOf 3)) = some y2 := h2
    rw [cells_str] at h0 h1
    rw [cells_int] at h2
    obtain ⟨a, rfl⟩ := cell_str (c := c0) h0 rfl
    obtain ⟨b, rfl⟩ := cell_str (c := c1) h1 rfl
    obtain ⟨d, rfl⟩ := cell_int (c := c2) h2 rfl
    exact ⟨⟨a, b, d⟩, rfl, fun _ => trivial⟩
set_option maxRecDepth 100000 in
theorem opens_res : Opens Try.prog 190 (fun w cs (r : ResP × List (List UInt8)) => ∃ (k v : Int) (kv : Value), cs = [.int .i64 k, str r.1.val, .int .i64 v, kv] ∧ Strs w kv r.2) (fun _ => True) := by
  intro H enc w base spare held n cs x hx
  obtain ⟨hl, hg⟩ := struct_at Try.underlying190 hx
  rw [cells_res] at hl
  match cs, hl with
  | [c0, c1, c2, c3], _ =>
    obtain ⟨m0, y0, h0, _⟩ := hg 0 _ rfl
    obtain ⟨m1, y1, h1, _⟩ := hg 1 _ rfl
    obtain ⟨m2, y2, h2, _⟩ := hg 2 _ rfl
    obtain ⟨m3, y3, h3, _⟩ := hg 3 _ rfl
    have h0 : DataW.trod enc Try.prog w base spare held m0 3 (([c0, c1, c2, c3].drop 0).take (Try.prog.cellsOf 3)) = some y0 := h0
    have h1 : DataW.trod enc Try.prog w base spare held m1 9 (([c0, c1, c2, c3].drop 1).take (Try.prog.cellsOf 9)) = some y1 := h1
    have h2 : DataW.trod enc Try.prog w base spare held m2 3 (([c0, c1, c2, c3].drop 2).take (Try.prog.cellsOf 3)) = some y2 := h2
    have h3 : DataW.trod enc Try.prog w base spare held m3 62 (([c0, c1, c2, c3].drop 3).take (Try.prog.cellsOf 62)) = some y3 := h3
    rw [cells_int] at h0 h2
    rw [cells_str] at h1
    rw [cells_strs] at h3
    obtain ⟨a, rfl⟩ := cell_int (c := c0) h0 rfl
    obtain ⟨b, rfl⟩ := cell_str (c := c1) h1 rfl
    obtain ⟨d, rfl⟩ := cell_int (c := c2) h2 rfl
    obtain ⟨l, ⟨kv, hkv, hs⟩, _⟩ := opens_strs enc w base spare held m3 _ y3 h3
    obtain rfl : c3 = kv := by simpa using hkv
    exact ⟨(⟨0, b, 0, []⟩, l), ⟨a, d, c3, rfl, hs⟩, fun _ => trivial⟩
set_option maxRecDepth 100000 in
theorem opens_sess : Opens Try.prog 192 (fun w cs (s : SessP) => SessR w cs s) (fun _ => True) := by
  intro H enc w base spare held n cs x hx
  obtain ⟨hl, hg⟩ := struct_at Try.underlying192 hx
  rw [cells_sess] at hl
  match cs, hl with
  | [c0, c1, c2, c3, c4, c5, c6], _ =>
    obtain ⟨m0, y0, h0, _⟩ := hg 0 _ rfl
    obtain ⟨m1, y1, h1, _⟩ := hg 1 _ rfl
    obtain ⟨m2, y2, h2, _⟩ := hg 2 _ rfl
    obtain ⟨m3, y3, h3, _⟩ := hg 3 _ rfl
    have h0 : DataW.trod enc Try.prog w base spare held m0 3 (([c0, c1, c2, c3, c4, c5, c6].drop 0).take (Try.prog.cellsOf 3)) = some y0 := h0
    have h1 : DataW.trod enc Try.prog w base spare held m1 3 (([c0, c1, c2, c3, c4, c5, c6].drop 1).take (Try.prog.cellsOf 3)) = some y1 := h1
    have h2 : DataW.trod enc Try.prog w base spare held m2 190 (([c0, c1, c2, c3, c4, c5, c6].drop 2).take (Try.prog.cellsOf 190)) = some y2 := h2
    have h3 : DataW.trod enc Try.prog w base spare held m3 3 (([c0, c1, c2, c3, c4, c5, c6].drop 6).take (Try.prog.cellsOf 3)) = some y3 := h3
    rw [cells_int] at h0 h1 h3
    rw [cells_res] at h2
    obtain ⟨a, rfl⟩ := cell_int (c := c0) h0 rfl
    obtain ⟨b, rfl⟩ := cell_int (c := c1) h1 rfl
    obtain ⟨d, rfl⟩ := cell_int (c := c6) h3 rfl
    obtain ⟨r, ⟨k, v, kv, hr, hs⟩, _⟩ := opens_res enc w base spare held m2 _ y2 h2
    have hr' : [c2, c3, c4, c5] = [.int .i64 k, str r.1.val, .int .i64 v, kv] := hr
    simp only [List.cons.injEq, and_true] at hr'
    obtain ⟨rfl, rfl, rfl, rfl⟩ := hr'
    exact ⟨⟨a, b, k, r.1.val, v, r.2, d⟩, ⟨c5, rfl, hs⟩, fun _ => trivial⟩
set_option maxRecDepth 100000 in
theorem opens_tab : Opens Try.prog 109 (fun w cs (t : Tab) => ∃ vp vs, cs = [vp, vs, .int .i64 t.time] ∧ Table2 w vp vs t) (fun _ => True) := by
  intro H enc w base spare held n cs x hx
  obtain ⟨hl, hg⟩ := struct_at Try.underlying109 hx
  rw [cells_tab] at hl
  match cs, hl with
  | [c0, c1, c2], _ =>
    obtain ⟨m0, y0, h0, _⟩ := hg 0 _ rfl
    obtain ⟨m1, y1, h1, _⟩ := hg 1 _ rfl
    obtain ⟨m2, y2, h2, _⟩ := hg 2 _ rfl
    have h0 : DataW.trod enc Try.prog w base spare held m0 106 (([c0, c1, c2].drop 0).take (Try.prog.cellsOf 106)) = some y0 := h0
    have h1 : DataW.trod enc Try.prog w base spare held m1 107 (([c0, c1, c2].drop 1).take (Try.prog.cellsOf 107)) = some y1 := h1
    have h2 : DataW.trod enc Try.prog w base spare held m2 3 (([c0, c1, c2].drop 2).take (Try.prog.cellsOf 3)) = some y2 := h2
    rw [cells_pairs] at h0
    rw [cells_sessions] at h1
    rw [cells_int] at h2
    obtain ⟨tm, rfl⟩ := cell_int (c := c2) h2 rfl
    obtain ⟨l, ⟨vp, hvp, hp⟩, _⟩ := opens_slice Try.underlying106 cells_pair (by decide) opens_pair enc w base spare held m0 _ y0 h0
    obtain ⟨l2, ⟨vs, hvs, hs⟩, _⟩ := opens_slice Try.underlying107 cells_sess (by decide) opens_sess enc w base spare held m1 _ y1 h1
    obtain rfl : c0 = vp := by simpa using hvp
    obtain rfl : c1 = vs := by simpa using hvs
    exact ⟨⟨l, l2, tm⟩, ⟨c0, c1, rfl, ⟨hp, hs⟩⟩, fun _ => trivial⟩
set_option maxRecDepth 100000 in
theorem opens_snap : Opens Try.prog 105 (fun w cs (q : Int × Int × Conf × List UInt8) => ∃ a b d, cs = [.int .i64 q.1, .int .i64 q.2.1, a, b, d, str q.2.2.2] ∧ Config3 w a b d q.2.2.1) (fun _ => True) := by
  intro H enc w base spare held n cs x hx
  obtain ⟨hl, hg⟩ := struct_at Try.underlying105 hx
  rw [cells_snap] at hl
  match cs, hl with
  | [c0, c1, c2, c3, c4, c5], _ =>
    obtain ⟨m0, y0, h0, _⟩ := hg 0 _ rfl
    obtain ⟨m1, y1, h1, _⟩ := hg 1 _ rfl
    obtain ⟨m2, y2, h2, _⟩ := hg 2 _ rfl
    obtain ⟨m3, y3, h3, _⟩ := hg 3 _ rfl
    have h0 : DataW.trod enc Try.prog w base spare held m0 3 (([c0, c1, c2, c3, c4, c5].drop 0).take (Try.prog.cellsOf 3)) = some y0 := h0
    have h1 : DataW.trod enc Try.prog w base spare held m1 3 (([c0, c1, c2, c3, c4, c5].drop 1).take (Try.prog.cellsOf 3)) = some y1 := h1
    have h2 : DataW.trod enc Try.prog w base spare held m2 94 (([c0, c1, c2, c3, c4, c5].drop 2).take (Try.prog.cellsOf 94)) = some y2 := h2
    have h3 : DataW.trod enc Try.prog w base spare held m3 9 (([c0, c1, c2, c3, c4, c5].drop 5).take (Try.prog.cellsOf 9)) = some y3 := h3
    rw [cells_int] at h0 h1
    rw [cells_conf] at h2
    rw [cells_str] at h3
    obtain ⟨a, rfl⟩ := cell_int (c := c0) h0 rfl
    obtain ⟨b, rfl⟩ := cell_int (c := c1) h1 rfl
    obtain ⟨d, rfl⟩ := cell_str (c := c5) h3 rfl
    have h2' : DataW.trod enc Try.prog w base spare held m2 94 [c2, c3, c4] = some y2 := h2
    obtain ⟨c, hc, _⟩ := conf_cells h2'
    exact ⟨(a, b, c, d), ⟨c2, c3, c4, rfl, hc⟩, fun _ => trivial⟩

set_option maxRecDepth 100000 in
theorem wireSnapshots_lifted (os : Os) (started : os.Started) (H : Type) (enc : TypeId × Value → H) :
    ReturnsInHanded {} Try.checked os 11 .any (Rows.wireSnapshotsSpec.pre6 enc Try.prog Try.f11 Rows.wireSnapshotsRow.domain false) (Rows.wireSnapshotsSpec.post enc Try.prog Try.f11 false true false false) := by
  refine returnsInHanded_of_change_sized (C := Try.checked) law_own started (by kernel_rfl) Try.func11
    (ChangeSpec.witness6 (enc := enc) (C := Try.checked) false ⟨#[], #[.agg #[.int .i64 0, .int .i64 0, .slice none 0 0, .slice none 0 0, .slice none 0 0, .string .empty], .agg #[.slice none 0 0, .slice none 0 0, .int .i64 0], .string .empty], []⟩ 8 (by kernel_rfl) (by kernel_rfl) (by kernel_rfl) (by kernel_rfl)) ?_
  intro W base args ds gs before hval0 hW _ hsz0 _
  have hsz : (DataW.weightsEach Try.prog (Try.f11.params.toList ++ Rows.wireSnapshotsSpec.plain.varTypes Try.prog) (ds ++ gs)).all (· ≤ reachBytes) = true := hsz0
  have hval : ∀ (j : Nat) t v, Try.f11.params[j]? = some t → args[j]? = some v → Value.okWide Try.prog W .any base t v := hval0
  have hW' : DataW.Whole enc Try.prog Try.f11.params.toList Rows.wireSnapshotsSpec.vars false W args.toList ds gs before := hW
  obtain ⟨p, q, hA0, hV, rfl, hfz, hnd⟩ := hW
  have hA : DataW.TrodAll enc Try.prog W 0 (fun _ => true) true Try.f11.params.toList args.toList ds p := hA0
  rw [Try.params11] at hA hval hsz
  obtain ⟨v0, vs0, d0, ds0, p0, q0, hargs, rfl, rfl, h0, r0⟩ := trodAll_cons hA
  obtain ⟨v1, vs1, d1, ds1, p1, q1, rfl, rfl, rfl, h1, r1⟩ := trodAll_cons r0
  obtain ⟨v2, vs2, d2, ds2, p2, q2, rfl, rfl, rfl, h2, r2⟩ := trodAll_cons r1
  obtain ⟨rfl, rfl, rfl⟩ := trodAll_nil r2
  obtain rfl : args = #[v0, v1, v2] := by cases args; simp_all
  obtain ⟨rfl, rfl⟩ := trodVars_none hV
  clear hA0 hval0 hsz0
  obtain ⟨⟨index, term, c, data⟩, ⟨a, b, d, hcs0, hc⟩, _⟩ := opens_snap.arg h0
  obtain ⟨cs0, rfl, _⟩ := okWide_struct Try.underlying105 (hval 0 105 v0 rfl rfl)
  obtain ⟨t, ⟨vp, vs, hcs1, ht⟩, _⟩ := opens_tab.arg h1
  obtain ⟨cs1, rfl, _⟩ := okWide_struct Try.underlying109 (hval 1 109 v1 rfl rfl)
  have e0 : cs0 = #[.int .i64 index, .int .i64 term, a, b, d, str data] := by cases cs0; simpa [Value.cells] using hcs0
  have e1 : cs1 = #[vp, vs, .int .i64 t.time] := by cases cs1; simpa [Value.cells] using hcs1
  subst e0
  subst e1
  obtain ⟨s2, rfl, rfl, rfl, hs2⟩ := open_string Try.underlying9 (hval 2 9 v2 rfl rfl) h2
  have hl2 : s2.data.toList.length ≤ reachBytes := sized_string hsz (j := 2) (t := 9) rfl rfl
  have hr : reachBytes = 140737488351232 := rfl
  refine (law_snapshots index term a b d c data vp vs t s2.data.toList W hc ht (by omega)).mono fun e W' ⟨he, hb⟩ => ?_
  exact ⟨_, he, law_post (by kernel_rfl) (by kernel_rfl) rfl rfl rfl rfl hW' hb⟩

theorem wireSnapshots_holds : Rows.WireSnapshotsSaid :=
  OpenClaim.holds_of_wide 11 Try.f11 rfl rfl rfl rfl rfl rfl rfl ⟨rfl, rfl, rfl, rfl, rfl⟩ rfl rfl rfl rfl rfl (by kernel_rfl) Try.func11 (by kernel_rfl)
    (of_decide_eq_true (by kernel_rfl)) (by unfold Func.isWrapper; first | (rw [if_pos (by decide +kernel)]; kernel_rfl) | (rw [if_neg (by decide +kernel)]; exact ⟨rfl, rfl⟩))
    (fun os started H enc _ => wireSnapshots_lifted os started H enc)

end Go.Proofs.Ytbonmeogmjfkeaa
