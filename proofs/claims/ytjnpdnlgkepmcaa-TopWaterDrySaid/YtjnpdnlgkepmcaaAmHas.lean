/- The functions of the small language are the program's. Conditions: none. -/
import Derived.Test.YtjnpdnlgkepmcaaAmFns
import Derived.Test.YtjnpdnlgkepmcaaProg
import Derived.KernelRfl
namespace Go.Proofs.Ytjnpdnlgkepmcaa.AM
set_option linter.unusedSimpArgs false
set_option linter.unusedVariables false
open Go Go.RowKit
def tbl : List (Nat × FuncId) := [(1, 1), (2, 2), (15, 7), (26, 17), (73, 21), (91, 49), (138, 38), (145, 51), (344, 11), (346, 12), (364, 50), (474, 3), (475, 4), (476, 5), (477, 6), (478, 8), (479, 9), (480, 10), (481, 13), (482, 14), (483, 15), (484, 16), (485, 18), (486, 19), (487, 20), (488, 22), (489, 23), (490, 24), (491, 25), (492, 26), (493, 27), (494, 28), (495, 29), (496, 30), (497, 31), (498, 32), (499, 33), (500, 34), (501, 35), (502, 36), (503, 37), (504, 39), (505, 40), (506, 41), (507, 42), (508, 43), (509, 44), (510, 45), (511, 46), (512, 47), (513, 48), (514, 52), (515, 53), (516, 54), (517, 55), (518, 56), (519, 57), (520, 58), (521, 59), (522, 60), (523, 61), (524, 62), (525, 63), (526, 64), (527, 65), (528, 66), (529, 67), (530, 68), (531, 69)]
noncomputable def E : Env := ⟨Try.prog, tbl⟩
instance : Mixed E := ⟨by kernel_rfl⟩
def rangesOf : Code → List (Code × Code)
 | .rangeFunc _ _ a b => [(a, b)]
 | .seq a b | .cond _ a b => rangesOf a ++ rangesOf b
 | .block _ a | .loop a => rangesOf a
 | _ => []
noncomputable def rng (f : FuncId) (i : Nat) : Code × Code := ((match E.P.funcs[f]? with | some fn => rangesOf (fn.body.getD .skip) | none => [])[i]?).getD (.skip, .skip)
instance has15 : Has E 15 (ir15) := ⟨by kernel_rfl⟩
instance has26 : Has E 26 (ir26) := ⟨by kernel_rfl⟩
instance has73 : Has E 73 (ir73) := ⟨by kernel_rfl⟩
instance has91 : Has E 91 (ir91) := ⟨by kernel_rfl⟩
instance has138 : Has E 138 (ir138) := ⟨by kernel_rfl⟩
instance has145 : Has E 145 (ir145) := ⟨by kernel_rfl⟩
instance has344 : Has E 344 (ir344) := ⟨by kernel_rfl⟩
instance has346 : Has E 346 (ir346) := ⟨by kernel_rfl⟩
instance has364 : Has E 364 (ir364) := ⟨by kernel_rfl⟩
instance has474 : Has E 474 (ir474) := ⟨by kernel_rfl⟩
instance has475 : Has E 475 (ir475) := ⟨by kernel_rfl⟩
instance has476 : Has E 476 (ir476) := ⟨by kernel_rfl⟩
instance has477 : Has E 477 (ir477) := ⟨by kernel_rfl⟩
instance has478 : Has E 478 (ir478) := ⟨by kernel_rfl⟩
instance has479 : Has E 479 (ir479) := ⟨by kernel_rfl⟩
instance has480 : Has E 480 (ir480) := ⟨by kernel_rfl⟩
instance has481 : Has E 481 (ir481) := ⟨by kernel_rfl⟩
instance has482 : Has E 482 (ir482) := ⟨by kernel_rfl⟩
instance has483 : Has E 483 (ir483) := ⟨by kernel_rfl⟩
instance has484 : Has E 484 (ir484) := ⟨by kernel_rfl⟩
instance has485 : Has E 485 (ir485) := ⟨by kernel_rfl⟩
instance has486 : Has E 486 (ir486) := ⟨by kernel_rfl⟩
instance has487 : Has E 487 (ir487) := ⟨by kernel_rfl⟩
instance has488 : Has E 488 (ir488) := ⟨by kernel_rfl⟩
instance has489 : Has E 489 (ir489) := ⟨by kernel_rfl⟩
instance has490 : Has E 490 (ir490) := ⟨by kernel_rfl⟩
instance has491 : Has E 491 (ir491) := ⟨by kernel_rfl⟩
instance has492 : Has E 492 (ir492) := ⟨by kernel_rfl⟩
instance has493 : Has E 493 (ir493) := ⟨by kernel_rfl⟩
instance has494 : Has E 494 (ir494) := ⟨by kernel_rfl⟩
instance has495 : Has E 495 (ir495) := ⟨by kernel_rfl⟩
instance has496 : Has E 496 (ir496) := ⟨by kernel_rfl⟩
instance has497 : Has E 497 (ir497) := ⟨by kernel_rfl⟩
instance has498 : Has E 498 (ir498) := ⟨by kernel_rfl⟩
instance has499 : Has E 499 (ir499) := ⟨by kernel_rfl⟩
instance has500 : Has E 500 (ir500) := ⟨by kernel_rfl⟩
instance has501 : Has E 501 (ir501) := ⟨by kernel_rfl⟩
instance has502 : Has E 502 (ir502) := ⟨by kernel_rfl⟩
instance has503 : Has E 503 (ir503) := ⟨by kernel_rfl⟩
instance has504 : Has E 504 (ir504) := ⟨by kernel_rfl⟩
instance has505 : Has E 505 (ir505) := ⟨by kernel_rfl⟩
instance has506 : Has E 506 (ir506) := ⟨by kernel_rfl⟩
instance has507 : Has E 507 (ir507) := ⟨by kernel_rfl⟩
instance has508 : Has E 508 (ir508) := ⟨by kernel_rfl⟩
instance has509 : Has E 509 (ir509) := ⟨by kernel_rfl⟩
instance has510 : Has E 510 (ir510) := ⟨by kernel_rfl⟩
instance has511 : Has E 511 (ir511) := ⟨by kernel_rfl⟩
instance has512 : Has E 512 (ir512) := ⟨by kernel_rfl⟩
instance has513 : Has E 513 (ir513) := ⟨by kernel_rfl⟩
instance has514 : Has E 514 (ir514) := ⟨by kernel_rfl⟩
instance has515 : Has E 515 (ir515) := ⟨by kernel_rfl⟩
instance has516 : Has E 516 (ir516) := ⟨by kernel_rfl⟩
instance has517 : Has E 517 (ir517) := ⟨by kernel_rfl⟩
instance has518 : Has E 518 (ir518) := ⟨by kernel_rfl⟩
instance has519 : Has E 519 (ir519 (rng 57)) := ⟨by kernel_rfl⟩
instance has520 : Has E 520 (ir520) := ⟨by kernel_rfl⟩
instance has521 : Has E 521 (ir521) := ⟨by kernel_rfl⟩
instance has522 : Has E 522 (ir522) := ⟨by kernel_rfl⟩
instance has523 : Has E 523 (ir523) := ⟨by kernel_rfl⟩
instance has524 : Has E 524 (ir524) := ⟨by kernel_rfl⟩
instance has525 : Has E 525 (ir525) := ⟨by kernel_rfl⟩
instance has526 : Has E 526 (ir526) := ⟨by kernel_rfl⟩
instance has527 : Has E 527 (ir527) := ⟨by kernel_rfl⟩
instance has528 : Has E 528 (ir528) := ⟨by kernel_rfl⟩
instance has529 : Has E 529 (ir529) := ⟨by kernel_rfl⟩
instance has530 : Has E 530 (ir530) := ⟨by kernel_rfl⟩
instance has531 : Has E 531 (ir531) := ⟨by kernel_rfl⟩
theorem ra519_0 : ccode E 171 ir519a0 (rng 57 0).1 = some ir519a0 := by kernel_rfl
theorem rb519_0 : ccode E 171 ir519b0 (rng 57 0).2 = some ir519b0 := by kernel_rfl
end Go.Proofs.Ytjnpdnlgkepmcaa.AM
