/- Contracts: chapter 9's readings. Conditions: none. -/
import Derived.Test.YtfdapegcngmknaaAmAwake
import Derived.Test.YtfdapegcngmknaaAmStep
namespace Go.Proofs.Ytfdapegcngmknaa.AM
open Go Go.RowKit
attribute [local irreducible] ICallV ICalls

theorem ICalls.lift0 {E : Env} {k : Nat} {us : List Value} {u : Value} (H : ICalls E k us AHeap.none fun v _ => v = u) (hu : vrcD u = true) (hus : us.all vrc = true) {h : AHeap} {Q : Value → AHeap → Prop} (hq : Q u h) : ICalls E k us h Q :=
  (ICalls.closed hu hus H h).use hq

theorem within_c (n lo hi : Int) : ICalls E 65 [.int .i64 n, .int .i64 lo, .int .i64 hi] AHeap.none fun v _ => v = .bool (ile lo n && ile n hi) := by
  refine icalls_fn (pfn_sound ?_)
  conv => whnf
  cases h1 : ile lo n <;> (conv => whnf) <;> rfl
theorem refWithin_c (n lo hi : Int) : ICalls E 15 [.int .i64 n, .int .i64 lo, .int .i64 hi] AHeap.none fun v _ => v = .bool (ile lo n && ile n hi) := by
  refine icalls_fn (pfn_sound ?_)
  conv => whnf
  cases h1 : ile lo n <;> (conv => whnf) <;> rfl
theorem isSized_c (n k : Int) : ICalls E 78 [.int .i64 n, .int .i64 k] AHeap.none fun v _ => v = .bool (ile (IntKind.i64.wrap (0 - k)) n && ile n k) := by
  refine icalls_fn (pfn_sound ?_)
  conv => whnf
  refine (within_c ..).lift0 rfl rfl ?_
  conv => whnf
  rfl
theorem isSized50_c (n : Int) : ICalls E 78 [.int .i64 n, .int .i64 50] AHeap.none fun v _ => v = .bool (ile (-50) n && ile n 50) := isSized_c n 50
theorem isSized2000_c (n : Int) : ICalls E 78 [.int .i64 n, .int .i64 2000] AHeap.none fun v _ => v = .bool (ile (-2000) n && ile n 2000) := isSized_c n 2000
theorem unless_c (b : Bool) (e : Int) : ICalls E 64 [.bool b, .int .i64 e] AHeap.none fun v _ => v = .int .i64 (bif b then 0 else e) := by
  refine icalls_fn (pfn_sound ?_)
  cases b <;> (conv => whnf) <;> rfl

def rdg (a b c : Int) : Value := .agg #[.int .i64 a, .int .i64 b, .int .i64 c]
def okRdg (a b c : Int) : Bool := (ile 0 a && ile a 36000) && (ile (-50) b && ile b 50) && (ile (-2000) c && ile c 2000)

theorem checkReading_c (a b c : Int) : ICalls E 33 [rdg a b c] AHeap.none fun v _ => v = .int .i64 (bif okRdg a b c then 0 else 2) := by
  refine icalls_fn (pfn_sound ?_)
  conv => whnf
  refine (within_c ..).lift0 rfl rfl ?_
  conv => whnf
  unfold okRdg
  cases h1 : ile 0 a && ile a 36000
  · conv => whnf
    refine (unless_c ..).lift0 rfl rfl ?_
    conv => whnf
    rfl
  · conv => whnf
    refine (isSized50_c ..).lift0 rfl rfl ?_
    conv => whnf
    cases h2 : (ile (-50) b && ile b 50)
    · conv => whnf
      refine (unless_c ..).lift0 rfl rfl ?_
      conv => whnf
      rfl
    · conv => whnf
      refine (isSized2000_c ..).lift0 rfl rfl ?_
      conv => whnf
      refine (unless_c ..).lift0 rfl rfl ?_
      conv => whnf
      rfl
theorem readingErr_c (a b c : Int) : ICalls E 32 [rdg a b c] AHeap.none fun v _ => v = .int .i64 (bif okRdg a b c then 0 else 2) := by
  refine icalls_fn (pfn_sound ?_)
  conv => whnf
  refine (refWithin_c ..).lift0 rfl rfl ?_
  conv => whnf
  unfold okRdg
  cases h1 : ile 0 a && ile a 36000
  · conv => whnf
    rfl
  · conv => whnf
    refine (refWithin_c ..).lift0 rfl rfl ?_
    conv => whnf
    cases h2 : (ile (-50) b && ile b 50)
    · conv => whnf
      rfl
    · conv => whnf
      refine (refWithin_c ..).lift0 rfl rfl ?_
      conv => whnf
      cases h3 : (ile (-2000) c && ile c 2000)
      · conv => whnf
        rfl
      · conv => whnf
        rfl
end Go.Proofs.Ytfdapegcngmknaa.AM
