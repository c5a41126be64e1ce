/- Contracts: the time to empty a basin; the law. Conditions: none. -/
import Derived.Test.YtfdapegcngmknaaAmBas
namespace Go.Proofs.Ytfdapegcngmknaa.AM
open Go Go.RowKit
attribute [local irreducible] ICallV ICalls ploop Recast

theorem take_ints {L : List Int} {n : Nat} : (ints L).take n = ints (L.take n) := by simp [ints]
theorem nth_take {L : List Int} {i n : Nat} {x : Int} (h : L[i]? = some x) (hn : i < n) : nthv ((ints L).take ((n : Int).toNat)) ((i : Int).toNat) = some (.int .i64 x) := by
  rw [show ((n : Int).toNat) = n from rfl, take_ints]; exact nth_ints (by rw [List.getElem?_take, if_pos hn]; exact h)
theorem emptyingOf_ok (V O : List Int) (k : Nat) (hk : k ≤ V.length) (hb : okB V O) : ICalls E 13 [basin V O, .int .i64 k] AHeap.none fun v _ => v = .tuple #[.int .i64 (empS (V.take k) (O.take k)), .int .i64 0] := by
  refine icalls_fn (pfn_sound ?_)
  have h1 := @len_ints V
  have h2 := @len_ints O
  obtain ⟨h3, h4, h5, h6⟩ := hb
  have hck : ckB V O = (0, 0) := by
    unfold ckB; rw [if_neg (by omega), if_neg (by omega), h6]
  have hc := checkBasin_c V O
  rw [hck] at hc
  have hlen : ((ints V).take ((k : Int).toNat)).length = k := by rw [show ((k : Int).toNat) = k from rfl, List.length_take, h1]; omega
  conv => whnf
  repeat ((first | (refine (hc).go ?_) | (refine (within_t (by omega)).go ?_) | (refine (within_f (by omega)).go ?_) | (refine (unlessT (by first | rfl | exact ilt_t (by omega) | exact ile_t (by omega) | exact ieq_t (by omega) | exact not_f (ieq_f (by omega)) | exact not_f (ilt_f (by omega)) | exact not_f (ile_f (by omega)) | assumption)).go ?_) | (refine (unlessF (by first | rfl | exact ilt_f (by omega) | exact ile_f (by omega) | exact ieq_f (by omega) | exact not_t (ieq_t (by omega)) | exact not_t (ilt_t (by omega)) | exact not_t (ile_t (by omega)) | assumption)).go ?_) | (refine ICalls.goD (first2 _ _ rfl) (by first | exact .cl | exact .cons .cl (.cons .vt .nil) | exact .cons .vt .nil | exact .cons .vt (.cons .cl .nil)) rfl ?_) | (refine pbr_t (ilt_t (by omega)) ?_) | (refine pbr_f (ilt_f (by omega)) ?_) | (refine pbr_t (ile_t (by omega)) ?_) | (refine pbr_f (ile_f (by omega)) ?_) | (refine pbr_t (ieq_t (by omega)) ?_) | (refine pbr_f (ieq_f (by omega)) ?_) | (refine pbr_f (not_t (ilt_t (by omega))) ?_) | (refine pbr_t (not_f (ilt_f (by omega))) ?_) | (refine pbr_f (not_t (ieq_t (by omega))) ?_) | (refine pbr_t (not_f (ieq_f (by omega))) ?_)); conv => whnf)
  refine ploop_cnt k (fun i => [(8, .int .i64 (empS (V.take i) (O.take i))), (33, .int .i64 (i : Int))]) (fun _ => True) .refl trivial ?_ ?_
  · intro i hi _
    obtain ⟨v, hv⟩ := getz (show i < V.length by omega)
    obtain ⟨o, ho⟩ := getz (show i < O.length by omega)
    obtain ⟨hv1, ho1⟩ := okB_at V O 0 h5 h6 i v o hv ho
    have hbd := empS_bd V O h6 h5 i (by omega)
    have hcb := ceil_bd hv1 ho1
    have hq : (v + o - 1).tdiv o = (v + o - 1) / o := Int.tdiv_eq_ediv_of_nonneg (by omega)
    conv => whnf
    repeat ((first | (refine obind_intro (nth_take hv hi) ?_) | (refine obind_intro (nth_ints ho) ?_) | (refine ⟨?_, trivial⟩) | (refine ⟨trivial, ?_⟩) | (refine ⟨⟨rfl, trivial⟩, ?_⟩) | (refine ⟨⟨rfl, rfl, trivial⟩, ?_⟩) | (refine ⟨⟨rfl, rfl, rfl, trivial⟩, ?_⟩) | (refine ⟨⟨rfl, rfl, rfl, rfl, trivial⟩, ?_⟩) | (refine pbr_t (ilt_t (by omega)) ?_) | (refine pbr_f (ilt_f (by omega)) ?_) | (refine pbr_t (ile_t (by omega)) ?_) | (refine pbr_f (ile_f (by omega)) ?_) | (refine pbr_t (ieq_t (by omega)) ?_) | (refine pbr_f (ieq_f (by omega)) ?_) | (refine pbr_f (not_t (ilt_t (by omega))) ?_) | (refine pbr_t (not_f (ilt_f (by omega))) ?_) | (refine pbr_f (not_t (ieq_t (by omega))) ?_) | (refine pbr_t (not_f (ieq_f (by omega))) ?_)); conv => whnf)
    rw [wrap_in (n := v + o) (by omega) (by omega), wrap_in (n := v + o - 1) (by omega) (by omega), hq, wrap_in (n := (v + o - 1) / o) (by omega) (by omega), wrap_in (n := empS (V.take i) (O.take i) + _) (by omega) (by omega), wrap_succ (by omega), ← empS_snoc V O i v o hv ho]
    exact .refl
  · intro _
    conv => whnf
    repeat ((first | (refine pbr_t (ilt_t (by omega)) ?_) | (refine pbr_f (ilt_f (by omega)) ?_) | (refine pbr_t (ile_t (by omega)) ?_) | (refine pbr_f (ile_f (by omega)) ?_) | (refine pbr_t (ieq_t (by omega)) ?_) | (refine pbr_f (ieq_f (by omega)) ?_) | (refine pbr_f (not_t (ilt_t (by omega))) ?_) | (refine pbr_t (not_f (ilt_f (by omega))) ?_) | (refine pbr_f (not_t (ieq_t (by omega))) ?_) | (refine pbr_t (not_f (ieq_f (by omega))) ?_)); conv => whnf)
    all_goals simp [resV]
theorem emptying_ok (V O : List Int) (k : Nat) (hk : k ≤ V.length) (hb : okB V O) : ICalls E 16 [basin V O, .int .i64 k] AHeap.none fun v _ => v = .int .i64 (empS (V.take k) (O.take k)) := by
  refine icalls_fn (pfn_sound ?_)
  have h1 := @len_ints V
  have h2 := @len_ints O
  obtain ⟨h3, h4, h5, h6⟩ := hb
  conv => whnf
  repeat ((first | (refine pbr_t (ilt_t (by omega)) ?_) | (refine pbr_f (ilt_f (by omega)) ?_) | (refine pbr_t (ile_t (by omega)) ?_) | (refine pbr_f (ile_f (by omega)) ?_) | (refine pbr_t (ieq_t (by omega)) ?_) | (refine pbr_f (ieq_f (by omega)) ?_) | (refine pbr_f (not_t (ilt_t (by omega))) ?_) | (refine pbr_t (not_f (ilt_f (by omega))) ?_) | (refine pbr_f (not_t (ieq_t (by omega))) ?_) | (refine pbr_t (not_f (ieq_f (by omega))) ?_)); conv => whnf)
  refine ploop_cntK [1, 2, 5, 6] k (fun i => [(5, .int .i64 (empS (V.take i) (O.take i))), (6, .int .i64 (i : Int))]) (fun _ => True) .refl trivial ?_ ?_
  · intro i hi _
    obtain ⟨v, hv⟩ := getz (show i < V.length by omega)
    obtain ⟨o, ho⟩ := getz (show i < O.length by omega)
    obtain ⟨hv1, ho1⟩ := okB_at V O 0 h5 h6 i v o hv ho
    have hbd := empS_bd V O h6 h5 i (by omega)
    have hcb := ceil_bd hv1 ho1
    conv => whnf
    repeat ((first | (refine obind_intro (nth_ints hv) ?_) | (refine obind_intro (nth_ints ho) ?_) | (refine ⟨?_, trivial⟩) | (refine ⟨trivial, ?_⟩) | (refine ⟨⟨rfl, trivial⟩, ?_⟩) | (refine ⟨⟨rfl, rfl, trivial⟩, ?_⟩) | (refine ⟨⟨rfl, rfl, rfl, trivial⟩, ?_⟩) | (refine ⟨⟨rfl, rfl, rfl, rfl, trivial⟩, ?_⟩) | (refine (ceil_c hv1 ho1).go ?_) | (refine pbr_t (ilt_t (by omega)) ?_) | (refine pbr_f (ilt_f (by omega)) ?_) | (refine pbr_t (ile_t (by omega)) ?_) | (refine pbr_f (ile_f (by omega)) ?_) | (refine pbr_t (ieq_t (by omega)) ?_) | (refine pbr_f (ieq_f (by omega)) ?_) | (refine pbr_f (not_t (ilt_t (by omega))) ?_) | (refine pbr_t (not_f (ilt_f (by omega))) ?_) | (refine pbr_f (not_t (ieq_t (by omega))) ?_) | (refine pbr_t (not_f (ieq_f (by omega))) ?_)); conv => whnf)
    rw [wrap_in (n := empS (V.take i) (O.take i) + _) (by omega) (by omega), wrap_succ (by omega), ← empS_snoc V O i v o hv ho]
    exact .refl
  · intro _
    conv => whnf
    repeat ((first | (refine pbr_t (ilt_t (by omega)) ?_) | (refine pbr_f (ilt_f (by omega)) ?_) | (refine pbr_t (ile_t (by omega)) ?_) | (refine pbr_f (ile_f (by omega)) ?_) | (refine pbr_t (ieq_t (by omega)) ?_) | (refine pbr_f (ieq_f (by omega)) ?_) | (refine pbr_f (not_t (ilt_t (by omega))) ?_) | (refine pbr_t (not_f (ilt_f (by omega))) ?_) | (refine pbr_f (not_t (ieq_t (by omega))) ?_) | (refine pbr_t (not_f (ieq_f (by omega))) ?_)); conv => whnf)
    all_goals simp [resV]

/-! ### The law -/
theorem emptyingOf_bad (V O : List Int) (n : Int) (hl : V.length ≤ 1000) (h : (ckB V O).2 ≠ 0 ∨ (okB V O ∧ (n < 0 ∨ V.length < n))) : ICalls E 13 [basin V O, .int .i64 n] AHeap.none fun v _ => v = .tuple #[.int .i64 0, .int .i64 (if (ckB V O).2 = 0 then 2 else (ckB V O).2)] := by
  refine icalls_fn (pfn_sound ?_)
  have h1 := @len_ints V
  have h2 := @len_ints O
  have hc := checkBasin_c V O
  rcases h with h | ⟨h, hn⟩
  · rw [if_neg h]
    generalize ckB V O = r at *
    rcases Int.lt_or_le n 0 with h3 | h3 <;> rcases Int.lt_or_le V.length n with h4 | h4
    · exfalso; omega
    all_goals
      conv => whnf
      repeat ((first | (refine (hc).go ?_) | (refine (within_t (by omega)).go ?_) | (refine (within_f (by omega)).go ?_) | (refine (unlessT (by first | rfl | exact ilt_t (by omega) | exact ile_t (by omega) | exact ieq_t (by omega) | exact not_f (ieq_f (by omega)) | exact not_f (ilt_f (by omega)) | exact not_f (ile_f (by omega)) | assumption)).go ?_) | (refine (unlessF (by first | rfl | exact ilt_f (by omega) | exact ile_f (by omega) | exact ieq_f (by omega) | exact not_t (ieq_t (by omega)) | exact not_t (ilt_t (by omega)) | exact not_t (ile_t (by omega)) | assumption)).go ?_) | (refine ICalls.goD (first2 _ _ (if_neg h).symm) (by first | exact .cl | exact .cons .cl (.cons .vt .nil) | exact .cons .vt .nil | exact .cons .vt (.cons .cl .nil)) rfl ?_) | (refine pbr_t (ilt_t (by omega)) ?_) | (refine pbr_f (ilt_f (by omega)) ?_) | (refine pbr_t (ile_t (by omega)) ?_) | (refine pbr_f (ile_f (by omega)) ?_) | (refine pbr_t (ieq_t (by omega)) ?_) | (refine pbr_f (ieq_f (by omega)) ?_) | (refine pbr_f (not_t (ilt_t (by omega))) ?_) | (refine pbr_t (not_f (ilt_f (by omega))) ?_) | (refine pbr_f (not_t (ieq_t (by omega))) ?_) | (refine pbr_t (not_f (ieq_f (by omega))) ?_)); conv => whnf)
  · have hck : ckB V O = (0, 0) := by
      unfold ckB; obtain ⟨h3, h4, h5, h6⟩ := h; rw [if_neg (by omega), if_neg (by omega), h6]
    rw [hck] at hc ⊢
    conv => whnf
    repeat ((first | (refine (hc).go ?_) | (refine (within_t (by omega)).go ?_) | (refine (within_f (by omega)).go ?_) | (refine (unlessT (by first | rfl | exact ilt_t (by omega) | exact ile_t (by omega) | exact ieq_t (by omega) | exact not_f (ieq_f (by omega)) | exact not_f (ilt_f (by omega)) | exact not_f (ile_f (by omega)) | assumption)).go ?_) | (refine (unlessF (by first | rfl | exact ilt_f (by omega) | exact ile_f (by omega) | exact ieq_f (by omega) | exact not_t (ieq_t (by omega)) | exact not_t (ilt_t (by omega)) | exact not_t (ile_t (by omega)) | assumption)).go ?_) | (refine ICalls.goD (first2 _ _ rfl) (by first | exact .cl | exact .cons .cl (.cons .vt .nil) | exact .cons .vt .nil | exact .cons .vt (.cons .cl .nil)) rfl ?_) | (refine pbr_t (ilt_t (by omega)) ?_) | (refine pbr_f (ilt_f (by omega)) ?_) | (refine pbr_t (ile_t (by omega)) ?_) | (refine pbr_f (ile_f (by omega)) ?_) | (refine pbr_t (ieq_t (by omega)) ?_) | (refine pbr_f (ieq_f (by omega)) ?_) | (refine pbr_f (not_t (ilt_t (by omega))) ?_) | (refine pbr_t (not_f (ilt_f (by omega))) ?_) | (refine pbr_f (not_t (ieq_t (by omega))) ?_) | (refine pbr_t (not_f (ieq_f (by omega))) ?_)); conv => whnf)

/-- A basin that is valid, or not. -/
theorem damBasins_c (V O : List Int) (n : Int) (hn : -9223372036854775808 ≤ n ∧ n < 9223372036854775808) : ICalls E 3 [basin V O, .int .i64 n] AHeap.none fun v _ => v = .bool true := by
  refine icalls_fn (pfn_sound ?_)
  have h1 := @len_ints V
  have h2 := @len_ints O
  rcases Nat.lt_or_ge 22 V.length with h3 | h3
  · conv => whnf
    repeat ((first | (refine (awake).go ?_) | (refine pbr_t (ilt_t (by omega)) ?_) | (refine pbr_f (ilt_f (by omega)) ?_) | (refine pbr_t (ile_t (by omega)) ?_) | (refine pbr_f (ile_f (by omega)) ?_) | (refine pbr_t (ieq_t (by omega)) ?_) | (refine pbr_f (ieq_f (by omega)) ?_) | (refine pbr_f (not_t (ilt_t (by omega))) ?_) | (refine pbr_t (not_f (ilt_f (by omega))) ?_) | (refine pbr_f (not_t (ieq_t (by omega))) ?_) | (refine pbr_t (not_f (ieq_f (by omega))) ?_)); conv => whnf)
    all_goals (first | rfl | (simp [resV, ieq_self]; done))
  rcases Nat.lt_or_ge 22 O.length with h4 | h4
  · conv => whnf
    repeat ((first | (refine (awake).go ?_) | (refine pbr_t (ilt_t (by omega)) ?_) | (refine pbr_f (ilt_f (by omega)) ?_) | (refine pbr_t (ile_t (by omega)) ?_) | (refine pbr_f (ile_f (by omega)) ?_) | (refine pbr_t (ieq_t (by omega)) ?_) | (refine pbr_f (ieq_f (by omega)) ?_) | (refine pbr_f (not_t (ilt_t (by omega))) ?_) | (refine pbr_t (not_f (ilt_f (by omega))) ?_) | (refine pbr_f (not_t (ieq_t (by omega))) ?_) | (refine pbr_t (not_f (ieq_f (by omega))) ?_)); conv => whnf)
    all_goals (first | rfl | (simp [resV, ieq_self]; done))
  have hcp := copyBasin_c V O (by omega) (by omega)
  have hc := checkBasin_c V O
  have hr := refBasin_c V O
  rcases ckB_cases V O with ⟨hok, hck⟩ | hck
  · rcases Int.lt_or_le n 0 with h5 | h5
    · have he := emptyingOf_bad V O n (by omega) (.inr ⟨hok, .inl h5⟩)
      rw [hck] at hc hr he
      conv => whnf
      repeat ((first | (refine (awake).go ?_) | (refine (hcp).go ?_) | (refine (hc).go ?_) | (refine (hr).go ?_) | (refine (he).go ?_) | (refine (refWithin_t (by omega)).go ?_) | (refine (refWithin_f (by omega)).go ?_) | (refine pbr_t (ilt_t (by omega)) ?_) | (refine pbr_f (ilt_f (by omega)) ?_) | (refine pbr_t (ile_t (by omega)) ?_) | (refine pbr_f (ile_f (by omega)) ?_) | (refine pbr_t (ieq_t (by omega)) ?_) | (refine pbr_f (ieq_f (by omega)) ?_) | (refine pbr_f (not_t (ilt_t (by omega))) ?_) | (refine pbr_t (not_f (ilt_f (by omega))) ?_) | (refine pbr_f (not_t (ieq_t (by omega))) ?_) | (refine pbr_t (not_f (ieq_f (by omega))) ?_)); conv => whnf)
      all_goals (first | rfl | (simp [resV, ieq_self]; done))
    · rcases Int.lt_or_le V.length n with h6 | h6
      · have he := emptyingOf_bad V O n (by omega) (.inr ⟨hok, .inr h6⟩)
        rw [hck] at hc hr he
        conv => whnf
        repeat ((first | (refine (awake).go ?_) | (refine (hcp).go ?_) | (refine (hc).go ?_) | (refine (hr).go ?_) | (refine (he).go ?_) | (refine (refWithin_t (by omega)).go ?_) | (refine (refWithin_f (by omega)).go ?_) | (refine pbr_t (ilt_t (by omega)) ?_) | (refine pbr_f (ilt_f (by omega)) ?_) | (refine pbr_t (ile_t (by omega)) ?_) | (refine pbr_f (ile_f (by omega)) ?_) | (refine pbr_t (ieq_t (by omega)) ?_) | (refine pbr_f (ieq_f (by omega)) ?_) | (refine pbr_f (not_t (ilt_t (by omega))) ?_) | (refine pbr_t (not_f (ilt_f (by omega))) ?_) | (refine pbr_f (not_t (ieq_t (by omega))) ?_) | (refine pbr_t (not_f (ieq_f (by omega))) ?_)); conv => whnf)
        all_goals (first | rfl | (simp [resV, ieq_self]; done))
      · obtain ⟨k, rfl⟩ : ∃ k : Nat, n = k := ⟨n.toNat, by omega⟩
        have he := emptyingOf_ok V O k (by omega) hok
        have hf := emptying_ok V O k (by omega) hok
        rw [hck] at hc hr
        rcases Nat.lt_or_ge k V.length with h7 | h7
        · obtain ⟨v, hv⟩ := getz h7
          obtain ⟨o, ho⟩ := getz (show k < O.length by have := hok.2.2.1; omega)
          obtain ⟨hv1, ho1⟩ := okB_at V O 0 hok.2.2.1 hok.2.2.2 k v o hv ho
          have he2 := emptyingOf_ok V O (k + 1) (by omega) hok
          rw [empS_snoc V O k v o hv ho] at he2
          have hbd := empS_bd V O hok.2.2.2 hok.2.2.1 k (by omega)
          have hcb := ceil_bd hv1 ho1
          rw [← wrap_succ (by omega)] at he2
          conv => whnf
          repeat ((first | (refine (awake).go ?_) | (refine (hcp).go ?_) | (refine (hc).go ?_) | (refine (hr).go ?_) | (refine (he).go ?_) | (refine (he2).go ?_) | (refine (hf).go ?_) | (refine (refWithin_t (by omega)).go ?_) | (refine (refWithin_f (by omega)).go ?_) | (refine ⟨?_, trivial⟩) | (refine ⟨trivial, ?_⟩) | (refine ⟨⟨rfl, trivial⟩, ?_⟩) | (refine ⟨⟨rfl, rfl, trivial⟩, ?_⟩) | (refine ⟨⟨rfl, rfl, rfl, trivial⟩, ?_⟩) | (refine ⟨⟨rfl, rfl, rfl, rfl, trivial⟩, ?_⟩) | (refine (ceil_c hv1 ho1).go ?_) | (refine obind_intro (nth_ints hv) ?_) | (refine obind_intro (nth_ints ho) ?_) | (refine pbr_t (ilt_t (by omega)) ?_) | (refine pbr_f (ilt_f (by omega)) ?_) | (refine pbr_t (ile_t (by omega)) ?_) | (refine pbr_f (ile_f (by omega)) ?_) | (refine pbr_t (ieq_t (by omega)) ?_) | (refine pbr_f (ieq_f (by omega)) ?_) | (refine pbr_f (not_t (ilt_t (by omega))) ?_) | (refine pbr_t (not_f (ilt_f (by omega))) ?_) | (refine pbr_f (not_t (ieq_t (by omega))) ?_) | (refine pbr_t (not_f (ieq_f (by omega))) ?_)); conv => whnf)
          rw [wrap_in (by omega) (by omega)]
          simp [resV, ieq_self]
        · conv => whnf
          repeat ((first | (refine (awake).go ?_) | (refine (hcp).go ?_) | (refine (hc).go ?_) | (refine (hr).go ?_) | (refine (he).go ?_) | (refine (hf).go ?_) | (refine (refWithin_t (by omega)).go ?_) | (refine (refWithin_f (by omega)).go ?_) | (refine ⟨?_, trivial⟩) | (refine ⟨trivial, ?_⟩) | (refine ⟨⟨rfl, trivial⟩, ?_⟩) | (refine ⟨⟨rfl, rfl, trivial⟩, ?_⟩) | (refine ⟨⟨rfl, rfl, rfl, trivial⟩, ?_⟩) | (refine ⟨⟨rfl, rfl, rfl, rfl, trivial⟩, ?_⟩) | (refine pbr_t (ilt_t (by omega)) ?_) | (refine pbr_f (ilt_f (by omega)) ?_) | (refine pbr_t (ile_t (by omega)) ?_) | (refine pbr_f (ile_f (by omega)) ?_) | (refine pbr_t (ieq_t (by omega)) ?_) | (refine pbr_f (ieq_f (by omega)) ?_) | (refine pbr_f (not_t (ilt_t (by omega))) ?_) | (refine pbr_t (not_f (ilt_f (by omega))) ?_) | (refine pbr_f (not_t (ieq_t (by omega))) ?_) | (refine pbr_t (not_f (ieq_f (by omega))) ?_)); conv => whnf)
          all_goals (first | rfl | (simp [resV, ieq_self]; done))
  · have he := emptyingOf_bad V O n (by omega) (.inl hck)
    rw [if_neg hck] at he
    generalize ckB V O = r at *
    conv => whnf
    repeat ((first | (refine (awake).go ?_) | (refine (hcp).go ?_) | (refine (hc).go ?_) | (refine (hr).go ?_) | (refine (he).go ?_) | (refine (refWithin_t (by omega)).go ?_) | (refine (refWithin_f (by omega)).go ?_) | (refine pbr_t (ilt_t (by omega)) ?_) | (refine pbr_f (ilt_f (by omega)) ?_) | (refine pbr_t (ile_t (by omega)) ?_) | (refine pbr_f (ile_f (by omega)) ?_) | (refine pbr_t (ieq_t (by omega)) ?_) | (refine pbr_f (ieq_f (by omega)) ?_) | (refine pbr_f (not_t (ilt_t (by omega))) ?_) | (refine pbr_t (not_f (ilt_f (by omega))) ?_) | (refine pbr_f (not_t (ieq_t (by omega))) ?_) | (refine pbr_t (not_f (ieq_f (by omega))) ?_)); conv => whnf)
    all_goals (first | rfl | (simp [resV, ieq_self]; done))
end Go.Proofs.Ytfdapegcngmknaa.AM
