/- Steps of a walk that need no choice, taken for as long as there are some; short names for printed proofs. Conditions: none. -/
import Derived.Test.YtgfglinlmnbjbaaGreatAmMtx
namespace Go.Proofs.YtgfglinlmnbjbaaGreat.AM
set_option linter.unusedSimpArgs false
set_option linter.unusedVariables false
open Go Go.RowKit
attribute [local irreducible] ICallV ICalls Recast
theorem aT {P : Prop} (h : P) : P ∧ True := ⟨h, trivial⟩
theorem aR {A B : Prop} (h : B) (a : A := by trivial) : A ∧ B := ⟨a, h⟩
structure Hole (Q : Prop) : Prop where
 out : Q
theorem R {P Q : Prop} (k : Q) (h : Hole Q → P := by
 intro k
 (conv => whnf)
 repeat ((first | refine pwa ?_ | refine pw_cond ?_ | refine pw_skip ?_ | refine pw_ret ?_ | refine pw_exit ?_ | refine pw_block ?_ | refine pw_sd ?_ | refine pw_ops (po_all ?_) | refine pw_draw ?_ | refine po_all ?_ | refine pbr_t (by with_reducible assumption) ?_ | refine pbr_f (by with_reducible assumption) ?_ | refine aT ?_);(conv => whnf))
 exact k.out) : P := h ⟨k⟩
theorem sb {K n : Nat} {m : Bool} {t t2 : List (Nat × Value)} {l : List (Nat × AObj)} (hK : K ≤ n := by exact nl rfl) (h : SubT t2 t := by repeat first | exact .nil | refine .cons rfl ?_) : Recast K ⟨t, ⟨n, l, m⟩⟩ ⟨t2, ⟨n, l, m⟩⟩ := .sub' hK h
theorem cr {t t2 : List (Nat × Value)} {h1 h2 : AHeap} (h : SubT t2 t := by repeat first | exact .nil | refine .cons rfl ?_) (e : h2 = h1 := by rfl) : SubU ⟨t2, h2⟩ ⟨t, h1⟩ := ⟨h, e⟩
theorem rfz {K n1 n2 : Nat} {m1 m2 : Bool} {t t2 : List (Nat × Value)} {l l2 : List (Nat × AObj)} (hK : K ≤ n2 := by exact nl rfl)
 (hH : FzHL ⟨n1, l, m1⟩ (fun _ => false) n2 l2 := by repeat' (first | exact .nil | refine .cons (.same rfl rfl ?_) ?_ | refine OBnd.rwl (nl rfl) rfl ?_ | exact OBnd.tail (nl rfl) | exact OBnd.rwc (nl rfl) oneL_flat | exact OBnd.rwc (nl rfl) (oneL_map fun _ => rfl) | exact trivial | refine .cons ?_ ?_ | exact .cl | exact .slice (nl rfl) | exact .ptr (nl rfl) | exact .vt (nl rfl) | exact .yield (nl rfl) | refine .aggl ?_ | refine .funcl ?_ ?_))
 (hT : FzSL ⟨n1, l, m1⟩ (fun _ => false) n2 t t2 := by repeat' (first | exact .nil | refine .cons rfl (.same _ ?_) ?_ | exact .cl | exact .slice (nl rfl) | exact .ptr (nl rfl) | exact .vt (nl rfl) | exact .yield (nl rfl) | refine .aggl ?_ | refine .funcl ?_ ?_ | refine .cons ?_ ?_)) : Recast K ⟨t, ⟨n1, l, m1⟩⟩ ⟨t2, ⟨n2, l2, m2⟩⟩ := .fz _ hK hH hT
abbrev iV (n : Int) : Value := .int .i64 n
abbrev pV (b o : Nat) : Value := .pointer (some ⟨b, o, none⟩)
end Go.Proofs.YtgfglinlmnbjbaaGreat.AM
