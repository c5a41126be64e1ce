/- The pure operations, all of them: what the small language yields, the model yields. Conditions: none. -/
import Derived.Test.YtacgibkgojnfeaaGreatDoorAmEq
import Derived.Laws.Slices
namespace Go.Proofs.YtacgibkgojnfeaaGreatDoor.AM
set_option linter.unusedSimpArgs false
set_option linter.unusedVariables false
open Go Go.RowKit

theorem run_val {P : Program} {w w' : World} {s : Sem Value} {v : Value} (h : s.run P w = .ok v w') : ((do pure (Next.value (← s))) : Sem Next).run P w = .ok (.value v) w' := by
  simp only [Sem.run_bind, h, Result.andThen, Sem.run_pure]

theorem nilOf_of {d : TypeDesc} {y : Operand} {k : NK} (h : nilOf d y = some k) : ∃ n, y = .const n ∧ ∀ v b, vnilr k v = some b → nilKind d v n = some b := by
  unfold nilOf at h
  split at h <;> first | (simp at h; done) | skip
  all_goals
    injection h with h; subst h
    refine ⟨_, rfl, fun v b hv => ?_⟩
    unfold vnilr at hv
    split at hv <;> first | (simp at *; done) | (injection hv with hv; subst hv; rfl)

theorem bnd_of {E : Env} {s : St} {a : Act} {ι : Iota} {N d n : Nat} {x : Option Operand} {y : Option Opd} (hc : copdO E x = some y) (T : TR ι N s.t a.tmps) (h : bnd E s d y = some n) :
    (x = none ∧ y = none ∧ n = d) ∨ ∃ x' y' k m, x = some x' ∧ y = some y' ∧ a.eval x' = .int k m ∧ 0 ≤ m ∧ n = m.toNat := by
  cases x with
  | none => simp [copdO] at hc; subst hc; simp [bnd] at h; exact .inl ⟨rfl, rfl, h.symm⟩
  | some x =>
    simp only [copdO, Option.map_eq_some_iff] at hc
    obtain ⟨y', hy, rfl⟩ := hc
    unfold bnd at h
    simp only at h
    split at h
    · rename_i k m he
      split at h
      · rename_i h0
        injection h with h
        have := ev_sim hy T he
        cases hv : a.eval x with
        | int k' m' => rw [hv] at this; cases this; exact .inr ⟨x, y', _, _, rfl, rfl, hv, h0, h.symm⟩
        | _ => rw [hv] at this; cases this
      · simp at h
    · simp at h

section
variable {E : Env} {ι : Iota} {N : Nat} {s : St} {a : Act} {w : World}

/-- The parts of a struct, an array or a slice literal. -/
theorem parts_sim {place : Nat → Option (Nat × Nat)} : ∀ {ps : List (Nat × Operand)} {qs : List (Nat × Nat × Opd)} {us : List (Nat × Nat × Value)}, cparts E place ps = some qs → TR ι N s.t a.tmps → evp E s qs = some us →
    ∀ (cs cs' : List Value) (out : List Value), VRL ι N cs cs' → fillL cs us = some out →
      ∃ out' : Array Value, Instr.fill place cs'.toArray (ps.map fun (i, x) => (i, a.eval x)) = some out' ∧ VRL ι N out out'.toList
  | [], qs, us, hc, T, he, cs, cs', out, hcs, hf => by
    simp [cparts] at hc; subst hc
    simp [evp] at he; subst he
    simp [fillL] at hf; subst hf
    exact ⟨cs'.toArray, rfl, by simpa using hcs⟩
  | (i, x) :: ps, qs, us, hc, T, he, cs, cs', out, hcs, hf => by
    simp only [cparts] at hc
    split at hc
    · rename_i off sz y l hp hy hl
      injection hc with hc; subst hc
      simp only [evp] at he
      split at he
      · rename_i v vs hv hvs
        injection he with he; subst he
        simp only [fillL] at hf
        split at hf
        · rename_i hsz
          have hvr := ev_sim hy T hv
          have hcl := VR.cells hvr
          have hs : (a.eval x).cells.size = sz := by
            have := hcl.1; simp at this; omega
          simp only [List.map_cons, Instr.fill, hp]
          rw [if_neg (by simp [hs]; have := hcs.1; omega)]
          have hset : ∀ (vs : List Value) (us : List Value) (k : Nat) (c c' : List Value), VRL ι N us vs → VRL ι N c c' →
              VRL ι N (setCells c (off + k) us) ((vs.zipIdx k).foldl (fun cs (c, j) => cs.setIfInBounds (off + j) c) c'.toArray).toList := by
            intro vs
            induction vs with
            | nil => intro us k c c' hu hcc; have : us = [] := List.eq_nil_of_length_eq_zero (by simpa using hu.1); subst this; simpa [setCells] using hcc
            | cons v vs ih =>
              intro us k c c' hu hcc
              cases us with
              | nil => simp [VRL] at hu
              | cons u us =>
                simp only [setCells, List.zipIdx_cons, List.foldl_cons]
                have h1 : (c'.toArray.setIfInBounds (off + k) v) = (c'.set (off + k) v).toArray := by simp
                rw [h1, show off + k + 1 = off + (k + 1) by omega]
                exact ih us (k + 1) _ _ hu.tail (hcc.set (off + k) hu.head)
          have h2 := hset (a.eval x).cells.toList v.cells.toList 0 cs cs' hcl hcs
          have h3 : ((a.eval x).cells.zipIdx.foldl (fun cs (c, j) => cs.setIfInBounds (off + j) c) cs'.toArray) = (((a.eval x).cells.toList.zipIdx 0).foldl (fun cs (c, j) => cs.setIfInBounds (off + j) c) cs'.toArray) := by
            rw [← Array.foldl_toList, Array.toList_zipIdx]
          obtain ⟨out', h4, h5⟩ := parts_sim hl T hvs _ _ out h2 hf
          refine ⟨out', ?_, h5⟩
          rw [h3]
          simpa using h4
        · simp at hf
      · simp at he
    · simp at hc

theorem sl_bounds {isS : Bool} {len cap : Nat} {lo hi mx : Option Operand} {l h m : Nat} {ylo yhi ymx : Option Opd}
    (hl : copdO E lo = some ylo) (hh : copdO E hi = some yhi) (hm : copdO E mx = some ymx) (T : TR ι N s.t a.tmps)
    (el : bnd E s 0 ylo = some l) (eh : bnd E s len yhi = some h) (em : bnd E s len ymx = some m) (h1 : l ≤ h) (h2 : h ≤ m) (h3 : m ≤ len) (hcap : len ≤ cap) (hno : ymx.isSome = true → yhi.isSome = true) :
    (Instr.sliceBounds isS len cap (lo.map a.eval) (hi.map a.eval) (mx.map a.eval)).run E.P w = .ok (l, h, if mx.isSome then m else cap) w := by
  rcases bnd_of hm T em with ⟨rfl, rfl, rfl⟩ | ⟨xm, ym, km, vm, rfl, rfl, hvm, hm0, rfl⟩
  · rcases bnd_of hh T eh with ⟨rfl, rfl, rfl⟩ | ⟨xh, yh, kh, vh, rfl, rfl, hvh, hh0, rfl⟩
    · rcases bnd_of hl T el with ⟨rfl, rfl, rfl⟩ | ⟨xl, yl, kl, vl, rfl, rfl, hvl, hl0, rfl⟩
      · simp [Instr.sliceBounds]
      · simp [Instr.sliceBounds, hvl, run_sliceBound hl0 (show vl.toNat ≤ h by omega), Result.andThen]
    · rcases bnd_of hl T el with ⟨rfl, rfl, rfl⟩ | ⟨xl, yl, kl, vl, rfl, rfl, hvl, hl0, rfl⟩
      · simp [Instr.sliceBounds, hvh, run_sliceBound hh0 (show vh.toNat ≤ cap by omega), Result.andThen]
      · simp [Instr.sliceBounds, hvh, hvl, run_sliceBound hh0 (show vh.toNat ≤ cap by omega), run_sliceBound hl0 h1, Result.andThen]
  · rcases bnd_of hh T eh with ⟨rfl, rfl, rfl⟩ | ⟨xh, yh, kh, vh, rfl, rfl, hvh, hh0, rfl⟩
    · simp at hno
    · rcases bnd_of hl T el with ⟨rfl, rfl, rfl⟩ | ⟨xl, yl, kl, vl, rfl, rfl, hvl, hl0, rfl⟩
      · simp [Instr.sliceBounds, hvh, hvm, run_sliceBound hm0 (show vm.toNat ≤ cap by omega), run_sliceBound hh0 h2, Result.andThen]
      · simp [Instr.sliceBounds, hvh, hvm, hvl, run_sliceBound hm0 (show vm.toNat ≤ cap by omega), run_sliceBound hh0 h2, run_sliceBound hl0 h1, Result.andThen]
end
end Go.Proofs.YtacgibkgojnfeaaGreatDoor.AM
