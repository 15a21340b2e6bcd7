/-
  WireEntries: the law's walk.
-/
import Derived.Test.YtbonmeogmjfkeaaEt
import Derived.Test.YtbonmeogmjfkeaaEf
import Derived.Test.YtbonmeogmjfkeaaEq
import Derived.Test.YtbonmeogmjfkeaaEc
import Derived.Test.YtbonmeogmjfkeaaCi
import Derived.Test.YtbonmeogmjfkeaaCj
import Derived.Test.YtbonmeogmjfkeaaKp
namespace Go.Proofs.Ytbonmeogmjfkeaa
open Go.RowKit Wm Mm
set_option linter.unusedVariables false

def entOf (res : Except Int Ent) : Ent := match res with | .ok q => q | .error _ => ⟨0, 0, 0, []⟩
def confOf (res : Except Int Conf) : Conf := match res with | .ok q => q | .error _ => ⟨[], [], []⟩
def errE {α : Type} (res : Except Int α) : Int := match res with | .ok _ => 0 | .error z => z
theorem GotEnt.plain {w : World} {res : Except Int Ent} {e : Ending} {w' : World} (h : GotEnt w res e w') : e = .returned (.tuple #[vE (entOf res), .int .i64 (errE res)]) ∧ Below w.heap.size w w' := by
  cases res with
  | ok q => exact h
  | error z => exact h
theorem GotConf.plain {w : World} {res : Except Int Conf} {e : Ending} {w' : World} (h : GotConf w res e w') : ∃ x y z, e = .returned (.tuple #[.agg #[x, y, z], .int .i64 (errE res)]) ∧ Config3F w.heap.size w' x y z (confOf res) ∧ Below w.heap.size w w' := by
  cases res with
  | ok q => exact h
  | error z => exact ⟨_, _, _, h.1, Config3F.nil _ _, h.2⟩
theorem known_ent : putEntB 1 1 0 [] = [1, 1, 0, 0] := by decide +kernel
theorem known_entE : putEntE 1 1 0 [] = 0 := by decide +kernel
theorem sameConf_self (c : Conf) : sameConf c c = true := by simp [sameConf]

set_option maxHeartbeats 4000000 in
set_option maxRecDepth 100000 in
theorem law_entries (index term kind : Int) (data : List UInt8) (a b d : Value) (c : Conf) (s : List UInt8) (w : World) (hc : Config3 w a b d c) (hn : c.v.length ≤ 17592186044000) (hn2 : c.n.length ≤ 17592186044000) (hn3 : c.l.length ≤ 17592186044000) (hs : s.length ≤ 140737488351232) :
    Calls Try.prog 10 #[vEnt index term kind data, .agg #[a, b, d], str s] w fun e w' => e = .returned (.bool true) ∧ Below w.heap.size w w' := by
  have K1 := Lib.hid (fun w' => wire_putEntry index term kind data w')
  have K2 := Lib.hid (fun w' => ref_putEntry index term kind data w')
  have K3 := Lib.hid (fun w' => wire_getEntry s w' (by omega))
  have K4 : Hid (∀ w', Calls Try.prog 53 #[str s] w' (GotEnt w' (full (rdEnt s)))) := fun w' => by
    have := ref_getEntry s w' (by omega)
    rwa [ent_same] at this
  have K5 : Hid (∀ w', Below w.heap.size w w' → Calls Try.prog 55 #[.agg #[a, b, d]] w' fun e w'' => ∃ a' b' d', e = .returned (.agg #[a', b', d']) ∧ Config3F w'.heap.size w'' a' b' d' c ∧ Below w'.heap.size w' w'') := fun w' h => law_conf a b d c w' (hc.mono h) hn hn2 hn3
  have K5b : Hid (∀ w' x y z, Config3 w' x y z c → Calls Try.prog 54 #[.agg #[x, y, z]] w' fun e w'' => e = .returned (.tuple #[str (putConfB c), .int .i64 (putConfE c)]) ∧ Below w'.heap.size w' w'') := fun w' x y z h => wire_putConfig x y z c w' h
  have K6 : Hid (∀ w', Below w.heap.size w w' → Calls Try.prog 56 #[.agg #[a, b, d]] w' fun e w'' => e = .returned (.tuple #[str (putConfB c), .int .i64 (putConfE c)]) ∧ Below w'.heap.size w' w'') := fun w' h => ref_putConfig a b d c w' (hc.mono h)
  have K7 := Lib.hid (fun w' => wire_getConfig s w' (by omega))
  have K8 : Hid (∀ w', Calls Try.prog 58 #[str s] w' (GotConf w' (full (rdConf s)))) := fun w' => by
    have := ref_getConfig s w' (by omega)
    rwa [conf_same] at this
  have K10 := Lib.hid (fun w' => wire_putEntry 1 1 0 [] w')
  rw [known_ent, known_entE] at K10
  obtain ⟨ao1, cp1, rfl, _⟩ := len_of_Ints hc.v
  obtain ⟨ao2, cp2, rfl, _⟩ := len_of_Ints hc.n
  obtain ⟨ao3, cp3, rfl, _⟩ := len_of_Ints hc.l
  obtain ⟨p1, hp1⟩ := hide (putEntB index term kind data)
  obtain ⟨z1, hz1⟩ := hide (putEntE index term kind data)
  rw [hp1.out, hz1.out] at K1 K2
  obtain ⟨p2, hp2⟩ := hide (putConfB c)
  obtain ⟨z2, hz2⟩ := hide (putConfE c)
  rw [hp2.out, hz2.out] at K5b K6
  obtain ⟨R, hR⟩ := hide (full (rdEnt s))
  rw [hR.out] at K3 K4
  obtain ⟨S, hS⟩ := hide (full (rdConf s))
  rw [hS.out] at K7 K8
  clear hs hc hn hn2 hn3
  obtain ⟨U0, hU⟩ := hide (w.alloc (.cells #[.int .i64 index, .int .i64 term, .int .i64 kind, str data] 92))
  obtain ⟨V0, hV⟩ := hide (U0.alloc (.cells #[.slice ao1 c.v.length cp1, .slice ao2 c.n.length cp2, .slice ao3 c.l.length cp3] 94))
  obtain ⟨B0, hB0⟩ := hide w.heap.size
  have hs0 : U0.heap.size = B0 + 1 := by rw [← hU.out, ← hB0.out]; simp
  have H0 := Lib.hid (((Keep.refl w).lay hU.out hB0.out).lay hV.out hs0)
  clear hs0
  have c0 := cell_n H0.out.tail.at0 0 (v := .int .i64 index) rfl
  have c1 := cell_n H0.out.tail.at0 1 (v := .int .i64 term) rfl
  have c2 := cell_n H0.out.tail.at0 2 (v := .int .i64 kind) rfl
  have c3 := cell_n H0.out.tail.at0 3 (v := str data) rfl
  go_enter Try.func10, Try.ntmps10
  go_upto_region 1 with fail
  rw [hU.out, hV.out, hB0.out]
  go_wp2_with fail
  refine (K1.out _).mono ?_
  rintro e V1 ⟨rfl, hb1⟩
  have H1 := Lib.hid (H0.out.step hb1)
  clear hb1 c0 c1 c2 c3
  have c0 := cell_n H1.out.tail.at0 0 (v := .int .i64 index) rfl
  have c1 := cell_n H1.out.tail.at0 1 (v := .int .i64 term) rfl
  have c2 := cell_n H1.out.tail.at0 2 (v := .int .i64 kind) rfl
  have c3 := cell_n H1.out.tail.at0 3 (v := str data) rfl
  go_wp2_with fail
  refine (K2.out _).mono ?_
  rintro e V2 ⟨rfl, hb1⟩
  have H2 := Lib.hid (H1.out.step hb1)
  clear hb1 c0 c1 c2 c3
  go_wp2_with fail
  refine (K3.out _).mono ?_
  intro e V3 hp
  obtain ⟨rfl, hb1⟩ := GotEnt.plain hp
  obtain ⟨r, hr⟩ := hide (entOf R)
  obtain ⟨er, her⟩ := hide (errE R)
  rw [hr.out, her.out]
  obtain ⟨B3, hB3⟩ := hide V3.heap.size
  obtain ⟨U3, hU3⟩ := hide (V3.alloc (.cells #[.int .i64 (r.index : Nat), .int .i64 (r.term : Nat), .int .i64 (r.kind : Nat), str r.data] 92))
  have H3 := Lib.hid ((H2.out.step hb1).lay hU3.out hB3.out)
  clear hb1
  go_upto_region 4 with fail
  rw [hU3.out, hB3.out]
  go_wp2_with fail
  refine (K4.out _).mono ?_
  intro e V4 hp
  obtain ⟨rfl, hb1⟩ := GotEnt.plain hp
  rw [hr.out, her.out]
  obtain ⟨B4, hB4⟩ := hide V4.heap.size
  obtain ⟨U4, hU4⟩ := hide (V4.alloc (.cells #[.int .i64 (r.index : Nat), .int .i64 (r.term : Nat), .int .i64 (r.kind : Nat), str r.data] 92))
  have H4 := Lib.hid ((H3.out.step hb1).lay hU4.out hB4.out)
  clear hb1
  have c0 := cell_n H4.out.tail.tail.at0 0 (v := .slice ao1 c.v.length cp1) rfl
  have c1 := cell_n H4.out.tail.tail.at0 1 (v := .slice ao2 c.n.length cp2) rfl
  have c2 := cell_n H4.out.tail.tail.at0 2 (v := .slice ao3 c.l.length cp3) rfl
  go_upto_region 5 with fail
  rw [hU4.out, hB4.out]
  go_wp2_with fail
  refine (K5.out _ H4.out.1).mono ?_
  rintro e V5 ⟨x5, y5, z5, rfl, hc5, hb1⟩
  have H5 := Lib.hid (H4.out.step hb1)
  have Hc5 := Lib.hid hc5.conf
  obtain ⟨ax5, px5, rfl⟩ := hc5.v.len
  obtain ⟨ay5, py5, rfl⟩ := hc5.n.len
  obtain ⟨az5, pz5, rfl⟩ := hc5.l.len
  clear hb1 hc5 c0 c1 c2
  go_wp2_with fail
  refine (K5b.out _ _ _ _ Hc5.out).mono ?_
  rintro e V6 ⟨rfl, hb1⟩
  have H6 := Lib.hid (H5.out.step hb1)
  clear hb1
  have c0 := cell_n H6.out.tail.tail.at0 0 (v := .slice ao1 c.v.length cp1) rfl
  have c1 := cell_n H6.out.tail.tail.at0 1 (v := .slice ao2 c.n.length cp2) rfl
  have c2 := cell_n H6.out.tail.tail.at0 2 (v := .slice ao3 c.l.length cp3) rfl
  go_wp2_with fail
  refine (K6.out _ H6.out.1).mono ?_
  rintro e V7 ⟨rfl, hb1⟩
  have H7 := Lib.hid (H6.out.step hb1)
  clear hb1 c0 c1 c2
  go_wp2_with fail
  refine (K7.out _).mono ?_
  intro e V8 hp
  obtain ⟨x7, y7, z7, rfl, hc7, hb1⟩ := GotConf.plain hp
  obtain ⟨cf, hcf⟩ := hide (confOf S)
  obtain ⟨ec, hec⟩ := hide (errE S)
  rw [hcf.out] at hc7
  rw [hec.out]
  obtain ⟨ax7, px7, rfl⟩ := hc7.v.len
  obtain ⟨ay7, py7, rfl⟩ := hc7.n.len
  obtain ⟨az7, pz7, rfl⟩ := hc7.l.len
  obtain ⟨B8, hB8⟩ := hide V8.heap.size
  obtain ⟨U8, hU8⟩ := hide (V8.alloc (.cells #[.slice ax7 cf.v.length px7, .slice ay7 cf.n.length py7, .slice az7 cf.l.length pz7] 94))
  have H8 := Lib.hid ((H7.out.step hb1).lay hU8.out hB8.out)
  have Hc8 : Hid (Config3 U8 (.slice ax7 cf.v.length px7) (.slice ay7 cf.n.length py7) (.slice az7 cf.l.length pz7) cf) := by show Config3 _ _ _ _ _; rw [← hU8.out]; exact hc7.conf.mono ((Below.refl _ _).alloc (Nat.le_refl _) _)
  clear hb1 hc7 hp
  go_upto_region 8 with fail
  rw [hU8.out, hB8.out]
  go_wp2_with fail
  refine (K8.out _).mono ?_
  intro e V9 hp
  obtain ⟨x8, y8, z8, rfl, hc9, hb1⟩ := GotConf.plain hp
  rw [hcf.out] at hc9
  rw [hec.out]
  obtain ⟨ax8, px8, rfl⟩ := hc9.v.len
  obtain ⟨ay8, py8, rfl⟩ := hc9.n.len
  obtain ⟨az8, pz8, rfl⟩ := hc9.l.len
  obtain ⟨B9, hB9⟩ := hide V9.heap.size
  obtain ⟨U9, hU9⟩ := hide (V9.alloc (.cells #[.slice ax8 cf.v.length px8, .slice ay8 cf.n.length py8, .slice az8 cf.l.length pz8] 94))
  have H9 := Lib.hid ((H8.out.step hb1).lay hU9.out hB9.out)
  have hal : Below V9.heap.size V9 U9 := by rw [← hU9.out]; exact (Below.refl _ _).alloc (Nat.le_refl _) _
  have K9 := Lib.hid (ref_sameConfig _ _ _ _ _ _ cf cf U9 ((Hc8.out.mono hb1).mono hal) (hc9.conf.mono hal))
  rw [sameConf_self] at K9
  clear hb1 hc9 hp hal
  have c0 := cell_n H9.out.tail.at0 0 (v := .slice ax7 cf.v.length px7) rfl
  have c1 := cell_n H9.out.tail.at0 1 (v := .slice ay7 cf.n.length py7) rfl
  have c2 := cell_n H9.out.tail.at0 2 (v := .slice az7 cf.l.length pz7) rfl
  have d0 := cell_n H9.out.at0 0 (v := .slice ax8 cf.v.length px8) rfl
  have d1 := cell_n H9.out.at0 1 (v := .slice ay8 cf.n.length py8) rfl
  have d2 := cell_n H9.out.at0 2 (v := .slice az8 cf.l.length pz8) rfl
  go_upto_region 9 with fail
  rw [hU9.out, hB9.out]
  go_wp2_with fail
  refine K9.out.mono ?_
  rintro e Va ⟨rfl, hb1⟩
  have Ha := Lib.hid (H9.out.step hb1)
  clear hb1 c0 c1 c2 d0 d1 d2
  go_wp2_with fail
  refine (K10.out _).mono ?_
  rintro e Vb ⟨rfl, hb1⟩
  have Hb := Lib.hid (Ha.out.step hb1)
  clear hb1
  have c0 := cell_n Hb.out.tail.tail.at0 0 (v := .int .i64 (r.index : Nat)) rfl
  have c1 := cell_n Hb.out.tail.tail.at0 1 (v := .int .i64 (r.term : Nat)) rfl
  have c2 := cell_n Hb.out.tail.tail.at0 2 (v := .int .i64 (r.kind : Nat)) rfl
  have c3 := cell_n Hb.out.tail.tail.at0 3 (v := str r.data) rfl
  have d0 := cell_n Hb.out.tail.tail.tail.at0 0 (v := .int .i64 (r.index : Nat)) rfl
  have d1 := cell_n Hb.out.tail.tail.tail.at0 1 (v := .int .i64 (r.term : Nat)) rfl
  have d2 := cell_n Hb.out.tail.tail.tail.at0 2 (v := .int .i64 (r.kind : Nat)) rfl
  have d3 := cell_n Hb.out.tail.tail.tail.at0 3 (v := str r.data) rfl
  go_wp2_with fail
  go_ret
  exact ⟨rfl, Hb.out.1⟩
end Go.Proofs.Ytbonmeogmjfkeaa
