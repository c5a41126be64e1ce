/- Slices of numbers that are nil, or lie in a block of their own. Conditions: none. -/
import Derived.Test.YtjnpdnlgkepmcaaAmLift5
namespace Go.Proofs.Ytjnpdnlgkepmcaa.AM
set_option linter.unusedSimpArgs false
set_option linter.unusedVariables false
open Go Go.RowKit
def nsv (b : Nat) (o : Option (List Int)) (c : Nat) : Value := match o with
 | none => .slice none 0 0
 | some l => .slice (some ⟨b, 0, none⟩) l.length c
def nso (o : Option (List Int)) : AObj := match o with
 | none => .dead
 | some l => .rw (l.map eI)
def nsl (o : Option (List Int)) : List Int := o.getD []
def ocase {β : Type} (o : Option (List Int)) (x : Option β) (y : List Int → Option β) : Option β := match o with
 | none => x
 | some l => y l
section
variable {β : Type} {v : β} {o : Option (List Int)}
end
section
variable {n b b2 k c : Nat} {o : Option (List Int)}
end
section
variable {E : Env} {t : List (Nat × Value)} {h : AHeap} {K : Option Value × AHeap → Prop}
def clrL (l : List Int) (n : Nat) : List Int := l.take n ++ List.replicate (l.length - n) 0
end
theorem VR.sl1 {ι : Iota} {N b m c : Nat} {x : Value} (hv : VR ι N (.slice (some ⟨b, 0, none⟩) m c) x) : VR ι N (.slice (some ⟨b, 0, none⟩) m 1) x := by
 cases hv with
 | slice _ _ _ _ a' c' hb ha hn hc0 hr => exact .slice _ _ _ _ a' c' hb ha hn (fun h => by cases h) (fun z h => by omega)
end Go.Proofs.Ytjnpdnlgkepmcaa.AM
