/-
  Messages, in plain Lean: how they are read. No program in sight.
-/
import Derived.Test.YtkcllpbbjlbfaaaMsb
import Derived.Test.YtkcllpbbjlbfaaaSr
namespace Go.Proofs.Ytkcllpbbjlbfaaa
open Go.RowKit Wm Mm Lg
set_option linter.unusedVariables false

def rdFlag (s : List UInt8) : Res Bool :=
  match s with
  | [] => .error 3
  | c :: t => if 1 < c.toNat then .error 1 else .ok (decide (c.toNat = 1), t)
abbrev entOf (e : Ent) : EntP := ⟨e.index, e.term, e.kind, e.data⟩
def rdEnts : Nat → List EntP → List UInt8 → Res (List EntP)
  | 0, acc, s => .ok (acc, s)
  | k + 1, acc, s =>
    match rdEnt s with
    | .error z => .error z
    | .ok (e, t) => rdEnts k (acc ++ [entOf e]) t
abbrev msg0 (k f d t : Nat) : Msg := ⟨k, f, d, t, 0, 0, 0, [], 0, 0, noConf, [], false, 0, 0⟩
def rdAsk (k f d t : Nat) (s : List UInt8) : Res Msg :=
  match rdNum s with
  | .error z => .error z
  | .ok (i, s1) => match rdNum s1 with
    | .error z => .error z
    | .ok (l, s2) => .ok (⟨k, f, d, t, i, l, 0, [], 0, 0, noConf, [], false, 0, 0⟩, s2)
def rdRep (k f d t : Nat) (s : List UInt8) : Res Msg :=
  match rdFlag s with
  | .error z => .error z
  | .ok (b, s1) => .ok (⟨k, f, d, t, 0, 0, 0, [], 0, 0, noConf, [], b, 0, 0⟩, s1)
def rdAppE (k f d t i l c x : Nat) (s : List UInt8) : Res Msg :=
  match rdUpTo 8 s with
  | .error z => .error z
  | .ok (n, s1) => match rdEnts n [] s1 with
    | .error z => .error z
    | .ok (es, s2) => .ok (⟨k, f, d, t, i, l, c, es, 0, 0, noConf, [], false, 0, x⟩, s2)
def rdApp (k f d t : Nat) (s : List UInt8) : Res Msg :=
  match rdNum s with
  | .error z => .error z
  | .ok (i, s1) => match rdNum s1 with
    | .error z => .error z
    | .ok (l, s2) => match rdNum s2 with
      | .error z => .error z
      | .ok (c, s3) => match rdNum s3 with
        | .error z => .error z
        | .ok (x, s4) => rdAppE k f d t i l c x s4
def rdBack (k f d t : Nat) (s : List UInt8) : Res Msg :=
  match rdNum s with
  | .error z => .error z
  | .ok (i, s1) => match rdFlag s1 with
    | .error z => .error z
    | .ok (b, s2) => match rdNum s2 with
      | .error z => .error z
      | .ok (h, s3) => match rdNum s3 with
        | .error z => .error z
        | .ok (x, s4) => .ok (⟨k, f, d, t, i, 0, 0, [], 0, 0, noConf, [], b, h, x⟩, s4)
def rdInst (k f d t : Nat) (s : List UInt8) : Res Msg :=
  match rdNum s with
  | .error z => .error z
  | .ok (x, s1) => match rdSnap s1 with
    | .error z => .error z
    | .ok (q, s2) => .ok (⟨k, f, d, t, 0, 0, 0, [], q.index, q.term, q.conf, q.data, false, 0, x⟩, s2)
def rdTail (k f d t : Nat) (s : List UInt8) : Res Msg :=
  if k = 1 ∨ k = 3 then rdAsk k f d t s
  else if k = 2 ∨ k = 4 then rdRep k f d t s
  else if k = 5 then rdApp k f d t s
  else if k = 6 then rdBack k f d t s
  else if k = 7 then rdInst k f d t s
  else .ok (msg0 k f d t, s)
def okMsg (r : Res Msg) : Res Msg :=
  match r with
  | .error z => .error z
  | .ok (m, s) => if isMsg m = true then .ok (m, s) else .error 7
def rdMsg (s : List UInt8) : Res Msg :=
  match rdNum s with
  | .error z => .error z
  | .ok (k, s1) => match rdNum s1 with
    | .error z => .error z
    | .ok (f, s2) => match rdNum s2 with
      | .error z => .error z
      | .ok (d, s3) => match rdNum s3 with
        | .error z => .error z
        | .ok (t, s4) => okMsg (rdTail k f d t s4)
end Go.Proofs.Ytkcllpbbjlbfaaa
