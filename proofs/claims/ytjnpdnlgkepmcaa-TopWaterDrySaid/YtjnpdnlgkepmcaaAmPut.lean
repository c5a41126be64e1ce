/- Calls that write a row of numbers in place, by contracts of the library. Conditions: none. -/
import Derived.Test.YtjnpdnlgkepmcaaAmNs
import Derived.Test.YtjnpdnlgkepmcaaAmFrame
import Derived.Test.YtjnpdnlgkepmcaaAmLink
import Derived.Shelf.Abstract
import Derived.Sort.Row
import Derived.Sort.Grow
namespace Go.Proofs.Ytjnpdnlgkepmcaa.AM
set_option linter.unusedSimpArgs false
set_option linter.unusedVariables false
open Go Go.RowKit Go.Sort
section
variable {ι : Iota} {h : AHeap} {w : World}
end
def srt (l : List Int) : List Int := l.mergeSort fun x y => decide (x ≤ y)
end Go.Proofs.Ytjnpdnlgkepmcaa.AM
