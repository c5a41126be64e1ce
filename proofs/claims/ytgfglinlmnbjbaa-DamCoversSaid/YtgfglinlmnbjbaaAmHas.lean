/- The functions of the small language are the program's. Conditions: none. -/
import Derived.Test.YtgfglinlmnbjbaaAmFns
import Derived.Test.YtgfglinlmnbjbaaAmFns1
import Derived.Test.YtgfglinlmnbjbaaProg
import Derived.KernelRfl
namespace Go.Proofs.Ytgfglinlmnbjbaa.AM
set_option linter.unusedSimpArgs false
set_option linter.unusedVariables false
open Go Go.RowKit

def tbl : List (Nat × FuncId) := [(4, 3), (10, 5), (11, 52), (13, 24), (15, 35), (18, 6), (19, 7), (20, 8), (21, 9), (22, 10), (23, 11), (24, 12), (25, 13), (26, 14), (27, 15), (28, 16), (33, 60), (36, 21), (38, 31), (43, 66), (55, 19), (60, 20), (61, 22), (62, 23), (63, 38), (64, 50), (65, 26), (67, 25), (68, 27), (69, 28), (70, 29), (71, 30), (72, 32), (73, 33), (74, 34), (75, 36), (76, 37), (77, 42), (78, 65), (79, 46), (80, 47), (81, 48), (82, 49), (83, 51), (85, 74), (86, 75), (87, 76), (88, 77), (89, 67), (93, 39), (94, 40), (95, 41), (96, 43), (97, 44), (98, 45), (100, 63), (103, 53), (104, 54), (105, 55), (106, 56), (107, 57), (108, 58), (109, 59), (110, 93), (111, 94), (112, 78), (114, 61), (115, 62), (116, 64), (118, 68), (119, 69), (120, 70), (121, 71), (122, 85), (123, 95), (124, 72), (125, 73), (126, 79), (127, 80), (128, 81), (129, 82), (130, 83), (131, 84), (132, 86), (133, 87), (134, 88), (135, 89), (136, 90), (137, 91), (138, 92), (139, 96), (140, 97), (141, 98), (142, 99), (143, 100), (144, 101), (145, 102), (146, 103), (147, 104)]
noncomputable def E : Env := ⟨Try.prog, tbl⟩
instance : Mixed E := ⟨by kernel_rfl⟩

def rangesOf : Code → List (Code × Code)
  | .rangeFunc _ _ a b => [(a, b)]
  | .seq a b | .cond _ a b => rangesOf a ++ rangesOf b
  | .block _ a | .loop a => rangesOf a
  | _ => []
noncomputable def rng (f : FuncId) (i : Nat) : Code × Code := ((match E.P.funcs[f]? with | some fn => rangesOf (fn.body.getD .skip) | none => [])[i]?).getD (.skip, .skip)
instance has4 : Has E 4 (ir4) := ⟨by kernel_rfl⟩
instance has10 : Has E 10 (ir10) := ⟨by kernel_rfl⟩
instance has11 : Has E 11 (ir11) := ⟨by kernel_rfl⟩
instance has13 : Has E 13 (ir13) := ⟨by kernel_rfl⟩
instance has15 : Has E 15 (ir15) := ⟨by kernel_rfl⟩
instance has18 : Has E 18 (ir18) := ⟨by kernel_rfl⟩
instance has19 : Has E 19 (ir19) := ⟨by kernel_rfl⟩
instance has20 : Has E 20 (ir20) := ⟨by kernel_rfl⟩
instance has21 : Has E 21 (ir21) := ⟨by kernel_rfl⟩
instance has22 : Has E 22 (ir22) := ⟨by kernel_rfl⟩
instance has23 : Has E 23 (ir23) := ⟨by kernel_rfl⟩
instance has24 : Has E 24 (ir24) := ⟨by kernel_rfl⟩
instance has25 : Has E 25 (ir25) := ⟨by kernel_rfl⟩
instance has26 : Has E 26 (ir26) := ⟨by kernel_rfl⟩
instance has27 : Has E 27 (ir27) := ⟨by kernel_rfl⟩
instance has28 : Has E 28 (ir28) := ⟨by kernel_rfl⟩
instance has33 : Has E 33 (ir33) := ⟨by kernel_rfl⟩
instance has36 : Has E 36 (ir36) := ⟨by kernel_rfl⟩
instance has38 : Has E 38 (ir38) := ⟨by kernel_rfl⟩
instance has43 : Has E 43 (ir43) := ⟨by kernel_rfl⟩
instance has55 : Has E 55 (ir55) := ⟨by kernel_rfl⟩
instance has60 : Has E 60 (ir60) := ⟨by kernel_rfl⟩
instance has61 : Has E 61 (ir61) := ⟨by kernel_rfl⟩
instance has62 : Has E 62 (ir62) := ⟨by kernel_rfl⟩
instance has63 : Has E 63 (ir63) := ⟨by kernel_rfl⟩
instance has64 : Has E 64 (ir64) := ⟨by kernel_rfl⟩
instance has65 : Has E 65 (ir65) := ⟨by kernel_rfl⟩
instance has67 : Has E 67 (ir67) := ⟨by kernel_rfl⟩
instance has68 : Has E 68 (ir68) := ⟨by kernel_rfl⟩
instance has69 : Has E 69 (ir69) := ⟨by kernel_rfl⟩
instance has70 : Has E 70 (ir70) := ⟨by kernel_rfl⟩
instance has71 : Has E 71 (ir71) := ⟨by kernel_rfl⟩
instance has72 : Has E 72 (ir72) := ⟨by kernel_rfl⟩
instance has73 : Has E 73 (ir73) := ⟨by kernel_rfl⟩
instance has74 : Has E 74 (ir74) := ⟨by kernel_rfl⟩
instance has75 : Has E 75 (ir75) := ⟨by kernel_rfl⟩
instance has76 : Has E 76 (ir76) := ⟨by kernel_rfl⟩
instance has77 : Has E 77 (ir77) := ⟨by kernel_rfl⟩
instance has78 : Has E 78 (ir78) := ⟨by kernel_rfl⟩
instance has79 : Has E 79 (ir79) := ⟨by kernel_rfl⟩
instance has80 : Has E 80 (ir80) := ⟨by kernel_rfl⟩
instance has81 : Has E 81 (ir81) := ⟨by kernel_rfl⟩
instance has82 : Has E 82 (ir82) := ⟨by kernel_rfl⟩
instance has83 : Has E 83 (ir83) := ⟨by kernel_rfl⟩
instance has85 : Has E 85 (ir85) := ⟨by kernel_rfl⟩
instance has86 : Has E 86 (ir86) := ⟨by kernel_rfl⟩
instance has87 : Has E 87 (ir87) := ⟨by kernel_rfl⟩
instance has88 : Has E 88 (ir88) := ⟨by kernel_rfl⟩
instance has89 : Has E 89 (ir89) := ⟨by kernel_rfl⟩
instance has93 : Has E 93 (ir93) := ⟨by kernel_rfl⟩
instance has94 : Has E 94 (ir94) := ⟨by kernel_rfl⟩
instance has95 : Has E 95 (ir95) := ⟨by kernel_rfl⟩
instance has96 : Has E 96 (ir96 (rng 43)) := ⟨by kernel_rfl⟩
instance has97 : Has E 97 (ir97) := ⟨by kernel_rfl⟩
instance has98 : Has E 98 (ir98) := ⟨by kernel_rfl⟩
instance has100 : Has E 100 (ir100) := ⟨by kernel_rfl⟩
instance has103 : Has E 103 (ir103) := ⟨by kernel_rfl⟩
instance has104 : Has E 104 (ir104) := ⟨by kernel_rfl⟩
instance has105 : Has E 105 (ir105) := ⟨by kernel_rfl⟩
instance has106 : Has E 106 (ir106) := ⟨by kernel_rfl⟩
instance has107 : Has E 107 (ir107) := ⟨by kernel_rfl⟩
instance has108 : Has E 108 (ir108) := ⟨by kernel_rfl⟩
instance has109 : Has E 109 (ir109) := ⟨by kernel_rfl⟩
instance has110 : Has E 110 (ir110) := ⟨by kernel_rfl⟩
instance has111 : Has E 111 (ir111) := ⟨by kernel_rfl⟩
instance has112 : Has E 112 (ir112) := ⟨by kernel_rfl⟩
instance has114 : Has E 114 (ir114) := ⟨by kernel_rfl⟩
instance has115 : Has E 115 (ir115) := ⟨by kernel_rfl⟩
instance has116 : Has E 116 (ir116) := ⟨by kernel_rfl⟩
instance has118 : Has E 118 (ir118) := ⟨by kernel_rfl⟩
instance has119 : Has E 119 (ir119) := ⟨by kernel_rfl⟩
instance has120 : Has E 120 (ir120) := ⟨by kernel_rfl⟩
instance has121 : Has E 121 (ir121) := ⟨by kernel_rfl⟩
instance has122 : Has E 122 (ir122) := ⟨by kernel_rfl⟩
instance has123 : Has E 123 (ir123) := ⟨by kernel_rfl⟩
instance has124 : Has E 124 (ir124) := ⟨by kernel_rfl⟩
instance has125 : Has E 125 (ir125) := ⟨by kernel_rfl⟩
instance has126 : Has E 126 (ir126) := ⟨by kernel_rfl⟩
instance has127 : Has E 127 (ir127) := ⟨by kernel_rfl⟩
instance has128 : Has E 128 (ir128) := ⟨by kernel_rfl⟩
instance has129 : Has E 129 (ir129) := ⟨by kernel_rfl⟩
instance has130 : Has E 130 (ir130) := ⟨by kernel_rfl⟩
instance has131 : Has E 131 (ir131) := ⟨by kernel_rfl⟩
instance has132 : Has E 132 (ir132) := ⟨by kernel_rfl⟩
instance has133 : Has E 133 (ir133) := ⟨by kernel_rfl⟩
instance has134 : Has E 134 (ir134) := ⟨by kernel_rfl⟩
instance has135 : Has E 135 (ir135) := ⟨by kernel_rfl⟩
instance has136 : Has E 136 (ir136) := ⟨by kernel_rfl⟩
instance has137 : Has E 137 (ir137) := ⟨by kernel_rfl⟩
instance has138 : Has E 138 (ir138) := ⟨by kernel_rfl⟩
instance has139 : Has E 139 (ir139) := ⟨by kernel_rfl⟩
instance has140 : Has E 140 (ir140) := ⟨by kernel_rfl⟩
instance has141 : Has E 141 (ir141) := ⟨by kernel_rfl⟩
instance has142 : Has E 142 (ir142) := ⟨by kernel_rfl⟩
instance has143 : Has E 143 (ir143) := ⟨by kernel_rfl⟩
instance has144 : Has E 144 (ir144) := ⟨by kernel_rfl⟩
instance has145 : Has E 145 (ir145) := ⟨by kernel_rfl⟩
instance has146 : Has E 146 (ir146) := ⟨by kernel_rfl⟩
instance has147 : Has E 147 (ir147) := ⟨by kernel_rfl⟩
theorem ra96_0 : ccode E 36 ir96a0 (rng 43 0).1 = some ir96a0 := by kernel_rfl
theorem rb96_0 : ccode E 36 ir96b0 (rng 43 0).2 = some ir96b0 := by kernel_rfl
end Go.Proofs.Ytgfglinlmnbjbaa.AM
