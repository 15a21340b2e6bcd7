/-
  Messages, in plain Lean: which may be; what they are as bytes. No program in sight.
-/
import Derived.Test.YtkcllpbbjlbfaaaMsa
import Derived.Test.YtkcllpbbjlbfaaaSp
import Derived.Test.YtkcllpbbjlbfaaaCj
namespace Go.Proofs.Ytkcllpbbjlbfaaa
open Go.RowKit Wm Mm Lg
set_option linter.unusedVariables false

structure Msg where
  kind : Int
  frm : Int
  dst : Int
  term : Int
  index : Int
  logTerm : Int
  commit : Int
  ents : List EntP
  si : Int
  st : Int
  sc : Conf
  sd : List UInt8
  rej : Bool
  hint : Int
  ctx : Int
abbrev rowMsg (m : Msg) (ev x y z : Value) : List Value := [.int .i64 m.kind, .int .i64 m.frm, .int .i64 m.dst, .int .i64 m.term, .int .i64 m.index, .int .i64 m.logTerm, .int .i64 m.commit, ev, .int .i64 m.si, .int .i64 m.st, x, y, z, str m.sd, .bool m.rej, .int .i64 m.hint, .int .i64 m.ctx]
abbrev vMsg (m : Msg) (ev x y z : Value) : Value := .agg #[.int .i64 m.kind, .int .i64 m.frm, .int .i64 m.dst, .int .i64 m.term, .int .i64 m.index, .int .i64 m.logTerm, .int .i64 m.commit, ev, .int .i64 m.si, .int .i64 m.st, x, y, z, str m.sd, .bool m.rej, .int .i64 m.hint, .int .i64 m.ctx]
def noConf : Conf := ⟨[], [], []⟩
/-- entries behind an index and a term, up to a term -/
def followB : List EntP → Int → Int → Int → Bool
  | [], _, _, _ => true
  | e :: r, idx, low, high => isEntry e.idx e.trm e.knd e.dat && (decide (e.idx = idx + 1) && (decide (low ≤ e.trm) && (decide (e.trm ≤ high) && followB r (idx + 1) e.trm high)))
def askB (k : Int) : Bool := (k == 1) || (k == 3)
def repB (k : Int) : Bool := (k == 2) || (k == 4)
def noneS (m : Msg) : Bool := (m.si == 0) && ((m.st == 0) && ((m.sd == []) && sameConf m.sc noConf))
/-- what its kind does not have is nought -/
def plainM (m : Msg) : Bool :=
  ((askB m.kind || (m.kind == 5 || m.kind == 6)) || m.index == 0) && (((askB m.kind || m.kind == 5) || m.logTerm == 0) && (((m.kind == 5) || m.commit == 0) && (((m.kind == 5) || decide (m.ents.length = 0)) && (((repB m.kind || m.kind == 6) || !m.rej) && (((m.kind == 6) || m.hint == 0) && (((m.kind == 5 || (m.kind == 6 || m.kind == 7)) || m.ctx == 0) && ((m.kind == 7) || noneS m)))))))
def headM (m : Msg) : Bool := inB m.kind 1 7 && (inB m.frm 1 9 && (inB m.dst 1 9 && (!(m.frm == m.dst) && (inB m.term 0 1099511627775 && !((m.term == 0) && !((m.kind == 2) && m.rej))))))
def big (n : Int) : Bool := inB n 0 1099511627775
def numsM (m : Msg) : Bool := big m.index && (big m.logTerm && (big m.commit && (big m.hint && big m.ctx)))
def bodyM (m : Msg) : Bool :=
  if m.kind = 5 then decide (m.ents.length ≤ 8) && (((m.index == 0) == (m.logTerm == 0)) && (decide (m.logTerm ≤ m.term) && followB m.ents m.index m.logTerm m.term))
  else if m.kind = 1 ∨ m.kind = 3 then (m.index == 0) == (m.logTerm == 0)
  else if m.kind = 7 then isSnap m.si m.st m.sc m.sd && decide (m.st ≤ m.term)
  else true
def isMsg (m : Msg) : Bool := plainM m && (headM m && (numsM m && bodyM m))
theorem follow_drop {l : List EntP} {k : Nat} (hk : k < l.length) (idx low high : Int) : followB (l.drop k) idx low high = (isEntry l[k].idx l[k].trm l[k].knd l[k].dat && (decide (l[k].idx = idx + 1) && (decide (low ≤ l[k].trm) && (decide (l[k].trm ≤ high) && followB (l.drop (k + 1)) (idx + 1) l[k].trm high)))) := by
  rw [List.drop_eq_getElem_cons hk]
  rfl
/-- the bytes of a message that may be -/
def flagB (b : Bool) : List UInt8 := if b then [1] else [0]
def putEnts : List EntP → List UInt8
  | [] => []
  | e :: r => putEnt e.idx.toNat e.trm.toNat e.knd.toNat e.dat ++ putEnts r
def putTail (m : Msg) : List UInt8 :=
  if m.kind = 1 ∨ m.kind = 3 then putNum m.index.toNat ++ putNum m.logTerm.toNat
  else if m.kind = 2 ∨ m.kind = 4 then flagB m.rej
  else if m.kind = 6 then putNum m.index.toNat ++ (flagB m.rej ++ (putNum m.hint.toNat ++ putNum m.ctx.toNat))
  else if m.kind = 7 then putNum m.ctx.toNat ++ putSnap m.si.toNat m.st.toNat m.sc m.sd
  else putNum m.index.toNat ++ (putNum m.logTerm.toNat ++ (putNum m.commit.toNat ++ (putNum m.ctx.toNat ++ (putNum m.ents.length ++ putEnts m.ents))))
def putMsg (m : Msg) : List UInt8 := putNum m.kind.toNat ++ (putNum m.frm.toNat ++ (putNum m.dst.toNat ++ (putNum m.term.toNat ++ putTail m)))
def putMsgB (m : Msg) : List UInt8 := if isMsg m = true then putMsg m else []
def putMsgE (m : Msg) : Int := if isMsg m = true then 0 else 7
end Go.Proofs.Ytkcllpbbjlbfaaa
