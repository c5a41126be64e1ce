/- Contracts: chapter 9's terms, and the law's walk. Conditions: none. -/
import Derived.Test.YtfdapegcngmknaaAmT1
import Derived.Lib.QuoteBits
namespace Go.Proofs.Ytfdapegcngmknaa.AM
open Go Go.RowKit
attribute [local irreducible] ICallV ICalls

theorem seasons {a : Int} (h0 : 0 ≤ a) : ∃ q : Int, (q = 0 ∨ q = 1 ∨ q = 2 ∨ q = 3) ∧ IntKind.i64.wrap ((IntKind.i64.wrap (a.tmod 360 * 4)).tdiv 360) = q ∧ IntKind.i64.wrap ((a.tmod 360).tdiv 90) = q := by
  have h1 : 0 ≤ a.tmod 360 := Int.tmod_nonneg _ h0
  have h2 : a.tmod 360 < 360 := Int.tmod_lt_of_pos _ (by decide)
  generalize a.tmod 360 = r at h1 h2
  have hw : ∀ n : Int, 0 ≤ n → n < 2000 → IntKind.i64.wrap n = n := by
    intro n h3 h4
    have : n.toNat < 9223372036854775808 := by omega
    have := Go.Lib.wrap_i64_small n.toNat this
    rwa [Int.toNat_of_nonneg h3] at this
  rw [hw (r * 4) (by omega) (by omega)]
  rw [Int.tdiv_eq_ediv_of_nonneg (by omega), Int.tdiv_eq_ediv_of_nonneg h1]
  rw [hw _ (by omega) (by omega), hw _ (by omega) (by omega)]
  exact ⟨r / 90, by omega, by omega, rfl⟩

def sea (q : Int) : Int × Int := if q = 0 then (1, 0) else if q = 1 then (0, 1) else if q = 2 then (-1, 0) else (0, -1)
def tmv (a b q : Int) : Value := .agg #[.int .i64 1, .int .i64 b, .int .i64 (sea q).1, .int .i64 (sea q).2, .int .i64 (IntKind.i64.wrap (a.tdiv 360))]

theorem terms_c {a b c q : Int} (hq : q = 0 ∨ q = 1 ∨ q = 2 ∨ q = 3) (hw : IntKind.i64.wrap ((IntKind.i64.wrap (a.tmod 360 * 4)).tdiv 360) = q) : ICalls E 77 [rdg a b c] AHeap.none fun v _ => v = tmv a b q := by
  refine icalls_fn (pfn_sound ?_)
  conv => whnf
  rw [hw]
  rcases hq with rfl | rfl | rfl | rfl
  all_goals
    conv => whnf
    rfl
theorem refTerms_c {a b c q : Int} (hq : q = 0 ∨ q = 1 ∨ q = 2 ∨ q = 3) (hw : IntKind.i64.wrap ((a.tmod 360).tdiv 90) = q) : ICalls E 34 [rdg a b c] AHeap.none fun v _ => v = tmv a b q := by
  refine icalls_fn (pfn_sound ?_)
  conv => whnf
  rw [hw]
  refine ⟨?_, ?_, trivial⟩
  all_goals
    conv => whnf
    refine ⟨⟨rfl, rfl, trivial⟩, ?_⟩
    rcases hq with rfl | rfl | rfl | rfl
    all_goals
      conv => whnf
      refine ⟨?_, trivial⟩
      conv => whnf
      refine ⟨⟨rfl, rfl, rfl, trivial⟩, ?_⟩
      conv => whnf
      refine ⟨?_, trivial⟩
      conv => whnf
      refine ⟨trivial, ?_⟩
      conv => whnf
      rfl

theorem termsOf_c {a b c q : Int} (hq : q = 0 ∨ q = 1 ∨ q = 2 ∨ q = 3) (hw : IntKind.i64.wrap ((IntKind.i64.wrap (a.tmod 360 * 4)).tdiv 360) = q) :
    ICalls E 31 [rdg a b c] AHeap.none fun v _ => v = .tuple #[bif okRdg a b c then tmv a b q else .agg #[.int .i64 0, .int .i64 0, .int .i64 0, .int .i64 0, .int .i64 0], .int .i64 (bif okRdg a b c then 0 else 2)] := by
  refine icalls_fn (pfn_sound ?_)
  conv => whnf
  refine (checkReading_c ..).lift0 rfl rfl ?_
  cases h : okRdg a b c
  · conv => whnf
    rfl
  · conv => whnf
    refine (terms_c hq hw).lift0 rfl rfl ?_
    conv => whnf
    rfl

theorem termsOfBad_c {a b c : Int} (h : okRdg a b c = false) :
    ICalls E 31 [rdg a b c] AHeap.none fun v _ => v = .tuple #[.agg #[.int .i64 0, .int .i64 0, .int .i64 0, .int .i64 0, .int .i64 0], .int .i64 2] := by
  refine icalls_fn (pfn_sound ?_)
  conv => whnf
  refine (checkReading_c ..).lift0 rfl rfl ?_
  rw [h]
  conv => whnf
  rfl

theorem damTerms_c (a b c : Int) : ICalls E 6 [rdg a b c] AHeap.none fun v _ => v = .bool true := by
  refine icalls_fn (pfn_sound ?_)
  conv => whnf
  refine (awake _).use ?_
  conv => whnf
  cases h : okRdg a b c
  · refine (termsOfBad_c h).lift0 rfl rfl ?_
    conv => whnf
    refine (readingErr_c ..).lift0 rfl rfl ?_
    rw [h]
    conv => whnf
    refine (checkReading_c ..).lift0 rfl rfl ?_
    rw [h]
    conv => whnf
    simp [resV, ieq_self]
  · have h0 : 0 ≤ a := by
      unfold okRdg at h
      simp only [Bool.and_eq_true, ile_eq, decide_eq_true_eq] at h
      omega
    obtain ⟨q, hq, hw1, hw2⟩ := seasons h0
    refine (termsOf_c hq hw1).lift0 ?_ rfl ?_
    · rw [h]; rfl
    rw [h]
    conv => whnf
    refine (readingErr_c ..).lift0 rfl rfl ?_
    rw [h]
    conv => whnf
    refine (checkReading_c ..).lift0 rfl rfl ?_
    rw [h]
    conv => whnf
    refine ⟨?_, trivial⟩
    conv => whnf
    refine (refTerms_c hq hw2).lift0 rfl rfl ?_
    conv => whnf
    refine ⟨⟨rfl, trivial⟩, ?_⟩
    conv => whnf
    simp [resV, ieq_self]
end Go.Proofs.Ytfdapegcngmknaa.AM
