/- A call that was proved for a slice in block 0 does the same for a slice in any block. Conditions: none. -/
import Derived.Test.YtjnpdnlgkepmcaaAmPut
namespace Go.Proofs.Ytjnpdnlgkepmcaa.AM
set_option linter.unusedSimpArgs false
set_option linter.unusedVariables false
open Go Go.RowKit
variable {E : Env}
def Iota.ren (ι ι2 : Iota) (b : Nat) : Iota := ⟨fun x => if x = b then ι2.loc 0 else ι.loc x, fun x => if x = b then ι2.tk 0 else ι.tk x, ι2.im, ι2.gi⟩
def one (ι : Iota) (b : Nat) : Iota := ⟨fun _ => ι.loc b, fun _ => ι.tk b, ι.im, ι.gi⟩
def hOne (l : List Int) : AHeap := ⟨1, [(0, .rw (l.map eI))], true⟩
end Go.Proofs.Ytjnpdnlgkepmcaa.AM
