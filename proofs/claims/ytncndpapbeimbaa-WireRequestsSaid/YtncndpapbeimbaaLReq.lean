/-
  WireRequests: for every request and every text the law answers true and leaves its arguments alone. No condition.
-/
import Derived.Test.YtncndpapbeimbaaRqs
import Derived.Test.YtncndpapbeimbaaRqr
import Derived.Test.YtncndpapbeimbaaLift
import Derived.Deep.DeepCutAuto
import Derived.Deep.QuietTactic
import Derived.BigQuiet
import Derived.Deep.RegionWith
namespace Go.Proofs.Ytncndpapbeimbaa
open Go.ChangeShapes Go.WideShapes Go.ChangeAt Go.RowKit Wm Mm
open Go.ChangeMaps (open_string)
set_option linter.unusedVariables false

def reqOf (res : Except Int Req) : Req := match res with | .ok q => q | .error _ => ⟨0, 0, ⟨0, [], [], 0⟩, 0⟩
def errOf (res : Except Int Req) : Int := match res with | .ok _ => 0 | .error z => z
theorem GotReq.plain {w w' : World} {res : Except Int Req} {e : Ending} (h : GotReq w res e w') : e = .returned (.tuple #[vR (reqOf res), .int .i64 (errOf res)]) ∧ Below w.heap.size w w' := by
  cases res with
  | ok q => exact h
  | error z => exact h
theorem putReq_len (client number kind : Int) (key val : List UInt8) (iff time : Int) : (putReq client number kind key val iff time).length ≤ 1000 := by
  unfold putReq
  split
  · rename_i h
    unfold okReq at h
    simp only [Bool.and_eq_true] at h
    obtain ⟨⟨⟨h1, h2⟩, h3⟩, h4⟩ := h
    have a1 := inB_of h1
    have a2 := inB_of h2
    have a3 := inB_of h3
    have b1 := putNum_len10 (n := client.toNat) (by omega)
    have b2 := putNum_len10 (n := number.toNat) (by omega)
    have b3 := putNum_len10 (n := time.toNat) (by omega)
    split
    · simp; omega
    · rename_i hz
      rw [if_neg hz] at h4
      obtain ⟨k1, k2, k3, k4⟩ := isCommand_facts h4
      have c1 := inB_of k1
      have c4 := inB_of k4
      have d1 := putNum_len10 (n := kind.toNat) (by omega)
      have d2 := putText_len key (by omega)
      have d3 := putText_len val (by omega)
      have d4 := putNum_len10 (n := iff.toNat) (by omega)
      simp [putCmd]; omega
  · simp
theorem known_req : putReq 0 300 0 [] [] 0 0 = [0, 172, 2, 0] := by decide +kernel
theorem known_reqE : putReqE 0 300 0 [] [] 0 0 = 0 := by decide +kernel

/-- new blocks, each with what lies in it -/
def Kept (w W : World) (F : List (Nat × Obj)) : Prop := Below w.heap.size w W ∧ ∀ p ∈ F, W.heap[p.1]? = some p.2
theorem Kept.step {w W W' : World} {F : List (Nat × Obj)} (h : Kept w W F) (hb : Below W.heap.size W W') : Kept w W' F :=
  ⟨h.1.trans (hb.mono h.1.size), fun p hp => (hb.block _ (lt_of_block (h.2 p hp))).trans (h.2 p hp)⟩
theorem Kept.laid {w W W' : World} {F : List (Nat × Obj)} {o : Obj} (h : Kept w W F) (e : W.alloc o = W') : Kept w W' F := by
  subst e; exact h.step ((Below.refl _ _).alloc (Nat.le_refl _) _)
theorem Kept.lay {w W W' : World} {F : List (Nat × Obj)} {cs : Array Value} {T : TypeId} {B : Nat} (h : Kept w W F) (e : W.alloc (.cells cs T) = W') (hB : W.heap.size = B) : Kept w W' ((B, .cells cs T (0, 0)) :: F) := by
  refine ⟨(h.laid e).1, fun p hp => ?_⟩
  cases hp with
  | head => rw [← e, ← hB]; exact hp_at _ _ rfl
  | tail _ hp => exact (h.laid e).2 p hp
theorem Kept.drew {w W : World} {F : List (Nat × Obj)} (h : Kept w W F) : Kept w W.drew F := ⟨h.1.drew, fun p hp => by rw [hp_drew]; exact h.2 p hp⟩

set_option maxHeartbeats 4000000 in
set_option maxRecDepth 100000 in
theorem law_requests (client number kind : Int) (key val : List UInt8) (iff time : Int) (s : List UInt8) (w : World) (hs : s.length ≤ 140737488351232) :
    Calls Try.prog 3 #[vReq client number kind key val iff time, str s] w fun e w' => e = .returned (.bool true) ∧ Below w.heap.size w w' := by
  have hpl := putReq_len client number kind key val iff time
  have K1 := Lib.hid (fun w => wire_putRequest client number kind key val iff time w)
  have K2 := Lib.hid (fun w => ref_putRequest client number kind key val iff time w)
  have K3 := Lib.hid (fun w => wire_getRequest s w (by omega))
  have K4 := Lib.hid (fun w => ref_getRequest s w (by omega))
  have K5 := Lib.hid (fun w => wire_getRequest (putReq client number kind key val iff time ++ s) w (by simp; omega))
  have K6 := Lib.hid (fun w => ref_getRequest (putReq client number kind key val iff time ++ s) w (by simp; omega))
  have K7 := Lib.hid (fun w => wire_putRequest 0 300 0 [] [] 0 0 w)
  have K8 := Lib.hid (fun w => wire_isCommand kind key val iff w)
  have K9 := Lib.hid (fun w => ref_isCommand kind key val iff w)
  obtain ⟨p, hp⟩ := hide (putReq client number kind key val iff time)
  obtain ⟨z, hz⟩ := hide (putReqE client number kind key val iff time)
  obtain ⟨ic, hic⟩ := hide (isCommand kind key val iff)
  rw [hp.out] at hpl K1 K2 K5 K6
  rw [hz.out] at K1 K2
  rw [hic.out] at K8 K9
  rw [known_req, known_reqE] at K7
  obtain ⟨R, hR⟩ := hide (full (rdReq s))
  obtain ⟨T, hT⟩ := hide (full (rdReq (p ++ s)))
  rw [hR.out] at K3 K4
  rw [hT.out] at K5 K6
  have hsum : p.length + s.length ≤ 9223372036854775807 := by omega
  obtain ⟨V0, hV⟩ := hide (w.alloc (.cells #[.int .i64 client, .int .i64 number, .int .i64 kind, str key, str val, .int .i64 iff, .int .i64 time] 25))
  obtain ⟨B0, hB0⟩ := hide w.heap.size
  have k0 : Kept w w [] := ⟨Below.refl _ _, fun _ h => by cases h⟩
  have H0 := Lib.hid (k0.lay hV.out hB0.out)
  clear k0
  obtain ⟨c0, c1, c2, c3, c4, c5, c6⟩ := seven_cells (H0.out.2 _ (List.Mem.head _))
  go_enter Try.func3, Try.ntmps3
  go_upto_region 1 with fail
  rw [hV.out, hB0.out]
  go_wp2_with fail
  refine (K1.out _).mono ?_
  clear c0 c1 c2 c3 c4 c5 c6
  intro e V1 hp
  obtain ⟨rfl, hb1⟩ := hp
  have H1 := Lib.hid (H0.out.step hb1)
  clear hb1
  obtain ⟨c0, c1, c2, c3, c4, c5, c6⟩ := seven_cells (H1.out.2 _ (List.Mem.head _))
  go_wp2_with fail
  refine (K2.out _).mono ?_
  clear c0 c1 c2 c3 c4 c5 c6
  intro e V2 hp
  obtain ⟨rfl, hb1⟩ := hp
  have H2 := Lib.hid (H1.out.step hb1)
  clear hb1
  obtain ⟨c0, c1, c2, c3, c4, c5, c6⟩ := seven_cells (H2.out.2 _ (List.Mem.head _))
  clear c0 c1 c2 c3 c4 c5 c6
  go_wp2_with fail
  refine (K3.out _).mono ?_
  intro e V3 hp
  obtain ⟨rfl, hb1⟩ := GotReq.plain hp
  obtain ⟨r, hr⟩ := hide (reqOf R)
  obtain ⟨er, her⟩ := hide (errOf R)
  rw [hr.out, her.out]
  obtain ⟨B3, hB3⟩ := hide V3.heap.size
  obtain ⟨U3, hU3⟩ := hide (V3.alloc (.cells #[.int .i64 (r.client : Nat), .int .i64 (r.number : Nat), .int .i64 (r.cmd.kind : Nat), str r.cmd.key, str r.cmd.val, .int .i64 (r.cmd.iff : Nat), .int .i64 (r.time : Nat)] 25))
  have G3 := Lib.hid (H2.out.step hb1)
  have H3 := Lib.hid (G3.out.lay hU3.out hB3.out)
  clear hb1
  go_upto_region 4 with fail
  rw [hU3.out, hB3.out]
  go_wp2_with fail
  refine (K4.out _).mono ?_
  intro e V4 hp
  obtain ⟨rfl, hb1⟩ := GotReq.plain hp
  rw [hr.out, her.out]
  obtain ⟨B4, hB4⟩ := hide V4.heap.size
  obtain ⟨U4, hU4⟩ := hide (V4.alloc (.cells #[.int .i64 (r.client : Nat), .int .i64 (r.number : Nat), .int .i64 (r.cmd.kind : Nat), str r.cmd.key, str r.cmd.val, .int .i64 (r.cmd.iff : Nat), .int .i64 (r.time : Nat)] 25))
  have G4 := Lib.hid (H3.out.step hb1)
  have H4 := Lib.hid (G4.out.lay hU4.out hB4.out)
  clear hb1
  go_upto_region 5 with fail
  rw [hU4.out, hB4.out]
  go_wp2_with fail
  refine (K5.out _).mono ?_
  intro e V5 hp
  obtain ⟨rfl, hb1⟩ := GotReq.plain hp
  obtain ⟨t, ht⟩ := hide (reqOf T)
  obtain ⟨et, het⟩ := hide (errOf T)
  rw [ht.out, het.out]
  obtain ⟨B5, hB5⟩ := hide V5.heap.size
  obtain ⟨U5, hU5⟩ := hide (V5.alloc (.cells #[.int .i64 (t.client : Nat), .int .i64 (t.number : Nat), .int .i64 (t.cmd.kind : Nat), str t.cmd.key, str t.cmd.val, .int .i64 (t.cmd.iff : Nat), .int .i64 (t.time : Nat)] 25))
  have G5 := Lib.hid (H4.out.step hb1)
  have H5 := Lib.hid (G5.out.lay hU5.out hB5.out)
  clear hb1
  go_upto_region 6 with fail
  rw [hU5.out, hB5.out]
  go_wp2_with fail
  refine (K6.out _).mono ?_
  intro e V6 hp
  obtain ⟨rfl, hb1⟩ := GotReq.plain hp
  rw [ht.out, het.out]
  obtain ⟨B6, hB6⟩ := hide V6.heap.size
  obtain ⟨U6, hU6⟩ := hide (V6.alloc (.cells #[.int .i64 (t.client : Nat), .int .i64 (t.number : Nat), .int .i64 (t.cmd.kind : Nat), str t.cmd.key, str t.cmd.val, .int .i64 (t.cmd.iff : Nat), .int .i64 (t.time : Nat)] 25))
  have G6 := Lib.hid (H5.out.step hb1)
  have H6 := Lib.hid (G6.out.lay hU6.out hB6.out)
  clear hb1
  go_upto_region 7 with fail
  rw [hU6.out, hB6.out]
  go_wp2_with fail
  refine (K7.out _).mono ?_
  intro e V7 hp
  obtain ⟨rfl, hb1⟩ := hp
  have H7 := Lib.hid (H6.out.step hb1)
  clear hb1
  go_upto_region 8 with fail
  go_cut [19] (fun c wx => c = .bool true ∧ Hid (Kept w wx [(B6, .cells #[.int .i64 (t.client : Nat), .int .i64 (t.number : Nat), .int .i64 (t.cmd.kind : Nat), str t.cmd.key, str t.cmd.val, .int .i64 (t.cmd.iff : Nat), .int .i64 (t.time : Nat)] 25 (0, 0)), (B5, .cells #[.int .i64 (t.client : Nat), .int .i64 (t.number : Nat), .int .i64 (t.cmd.kind : Nat), str t.cmd.key, str t.cmd.val, .int .i64 (t.cmd.iff : Nat), .int .i64 (t.time : Nat)] 25 (0, 0)), (B4, .cells #[.int .i64 (r.client : Nat), .int .i64 (r.number : Nat), .int .i64 (r.cmd.kind : Nat), str r.cmd.key, str r.cmd.val, .int .i64 (r.cmd.iff : Nat), .int .i64 (r.time : Nat)] 25 (0, 0)), (B3, .cells #[.int .i64 (r.client : Nat), .int .i64 (r.number : Nat), .int .i64 (r.cmd.kind : Nat), str r.cmd.key, str r.cmd.val, .int .i64 (r.cmd.iff : Nat), .int .i64 (r.time : Nat)] 25 (0, 0)), (B0, .cells #[.int .i64 client, .int .i64 number, .int .i64 kind, str key, str val, .int .i64 iff, .int .i64 time] 25 (0, 0))]))
  case first =>
    have Hd := Lib.hid H7.out.drew
    obtain ⟨c0, c1, c2, c3, c4, c5, c6⟩ := seven_cells (Hd.out.2 _ (List.Mem.tail _ (List.Mem.tail _ (List.Mem.tail _ (List.Mem.tail _ (List.Mem.head _))))))
    go_region_with (first
      | (go_at_call 8; refine (K8.out _).mono ?_; rintro e V8 ⟨rfl, hw8⟩; first | have H8 := Lib.hid (H9.out.laid hw8) | have H8 := Lib.hid (Hd.out.laid hw8); obtain ⟨d0, d1, d2, d3, d4, d5, d6⟩ := seven_cells (H8.out.2 _ (List.Mem.tail _ (List.Mem.tail _ (List.Mem.tail _ (List.Mem.tail _ (List.Mem.head _)))))); clear hw8)
      | (go_at_call 9; refine (K9.out _).mono ?_; rintro e V9 ⟨rfl, hw9⟩; first | have H9 := Lib.hid (H8.out.laid hw9) | have H9 := Lib.hid (Hd.out.laid hw9); obtain ⟨e0, e1, e2, e3, e4, e5, e6⟩ := seven_cells (H9.out.2 _ (List.Mem.tail _ (List.Mem.tail _ (List.Mem.tail _ (List.Mem.tail _ (List.Mem.head _)))))); clear hw9))
    all_goals
      go_wp2_with fail
      go_meet
      first | exact ⟨rfl, H9⟩ | exact ⟨rfl, H8⟩
  case rest =>
    obtain ⟨rfl, HK⟩ := hcut
    obtain ⟨c0, c1, c2, c3, c4, c5, c6⟩ := seven_cells (HK.out.2 _ (List.Mem.head _))
    obtain ⟨d0, d1, d2, d3, d4, d5, d6⟩ := seven_cells (HK.out.2 _ (List.Mem.tail _ (List.Mem.head _)))
    obtain ⟨e0, e1, e2, e3, e4, e5, e6⟩ := seven_cells (HK.out.2 _ (List.Mem.tail _ (List.Mem.tail _ (List.Mem.head _))))
    obtain ⟨f0, f1, f2, f3, f4, f5, f6⟩ := seven_cells (HK.out.2 _ (List.Mem.tail _ (List.Mem.tail _ (List.Mem.tail _ (List.Mem.head _)))))
    go_wp2_with fail
    go_ret
    exact ⟨rfl, HK.out.1⟩
end Go.Proofs.Ytncndpapbeimbaa
