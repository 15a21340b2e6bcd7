/-
  What files say, read by the document: taken, whatever the body.
-/
import Derived.Test.YtjlhlmnoomiblaaGreatZ33
import Derived.Test.YtjlhlmnoomiblaaGreatZ34
import Derived.Test.YtjlhlmnoomiblaaGreatZ36
namespace Go.Proofs.YtjlhlmnoomiblaaGreat
open Go.RowKit Wm Mm Lg Fl
set_option linter.unusedVariables false
set_option linter.unusedSimpArgs false

theorem taken_all (k : Kp) (ev x y z cx cy cz : Value) (F : Nat → Prop) (s : List UInt8) (w : World) (hE : Ents F w ev k.es) (hc : ConfG F w x y z k.sc) (hcf : ConfG F w cx cy cz k.cf) (hi : InvK k) (hr : s.length ≤ 9223372036854775806) :
    Calls Tryz.prog 31 #[.agg (cellsK k ev x y z cx cy cz), str s] w (TakenPost F w (recP k s)) := by
  cases s with
  | nil => exact taken_nil k ev x y z cx cy cz F w hE hc hcf
  | cons b r =>
    by_cases h1 : b = 1
    · subst h1
      exact taken_hard k ev x y z cx cy cz F w hE hc hcf (1 :: r) r (body_of 1 r) hr
    · by_cases h2 : b = 2
      · subst h2
        exact taken_ent k ev x y z cx cy cz F w hE hc hcf (2 :: r) r (body_of 2 r) hr hi
      · by_cases h3 : b = 3
        · subst h3
          exact taken_snap k ev x y z cx cy cz F w hE hc hcf (3 :: r) r (body_of 3 r) hr
        · have hn : recP k (b :: r) = none := by simp [recP, h1, h2, h3]
          rw [hn]
          exact taken_other k ev x y z cx cy cz F w hE hc hcf (b :: r) b r (body_of b r) hr h1 h2 h3
end Go.Proofs.YtjlhlmnoomiblaaGreat
