/- The functions of the small language are the program's. Conditions: none. -/
import Derived.Test.YtacgibkgojnfeaaGreatDoorAmFns
import Derived.Test.YtacgibkgojnfeaaGreatDoorAmFns1
import Derived.Test.YtacgibkgojnfeaaGreatDoorProg
import Derived.KernelRfl
namespace Go.Proofs.YtacgibkgojnfeaaGreatDoor.AM
set_option linter.unusedSimpArgs false
set_option linter.unusedVariables false
open Go Go.RowKit

def tbl : List (Nat × FuncId) := [(10, 21), (11, 99), (13, 66), (15, 16), (20, 120), (22, 64), (26, 67), (32, 24), (33, 37), (35, 25), (36, 32), (37, 18), (38, 57), (39, 7), (43, 74), (46, 34), (55, 12), (60, 31), (61, 33), (62, 65), (63, 40), (64, 53), (65, 63), (67, 145), (68, 146), (69, 147), (70, 105), (71, 148), (72, 97), (73, 46), (74, 98), (77, 44), (78, 84), (79, 54), (80, 77), (81, 78), (82, 55), (83, 59), (85, 102), (86, 103), (87, 104), (88, 60), (89, 56), (91, 79), (92, 80), (93, 41), (94, 42), (95, 43), (96, 45), (97, 47), (98, 48), (100, 91), (103, 121), (104, 122), (105, 123), (106, 124), (107, 125), (108, 126), (110, 61), (111, 73), (112, 95), (114, 89), (115, 90), (116, 92), (118, 149), (119, 150), (120, 151), (121, 144), (122, 118), (123, 119), (124, 115), (125, 116), (126, 166), (127, 167), (128, 168), (129, 169), (130, 170), (131, 171), (132, 172), (133, 173), (134, 174), (135, 161), (136, 175), (137, 176), (138, 143), (139, 183), (140, 184), (141, 185), (142, 186), (143, 187), (144, 188), (145, 165), (146, 189), (147, 190), (371, 4), (372, 5), (373, 10), (374, 11), (375, 22), (376, 23), (377, 26), (378, 27), (379, 28), (380, 29), (381, 30), (382, 35), (383, 36), (384, 38), (385, 39), (386, 68), (387, 69), (388, 70), (389, 71), (390, 72), (391, 75), (392, 76)]
noncomputable def E : Env := ⟨Tryz.prog, tbl⟩
instance : Mixed E := ⟨by kernel_rfl⟩

def rangesOf : Code → List (Code × Code)
  | .rangeFunc _ _ a b => [(a, b)]
  | .seq a b | .cond _ a b => rangesOf a ++ rangesOf b
  | .block _ a | .loop a => rangesOf a
  | _ => []
noncomputable def rng (f : FuncId) (i : Nat) : Code × Code := ((match E.P.funcs[f]? with | some fn => rangesOf (fn.body.getD .skip) | none => [])[i]?).getD (.skip, .skip)
instance has10 : Has E 10 (ir10) := ⟨by kernel_rfl⟩
instance has11 : Has E 11 (ir11) := ⟨by kernel_rfl⟩
instance has13 : Has E 13 (ir13) := ⟨by kernel_rfl⟩
instance has15 : Has E 15 (ir15) := ⟨by kernel_rfl⟩
instance has20 : Has E 20 (ir20) := ⟨by kernel_rfl⟩
instance has22 : Has E 22 (ir22) := ⟨by kernel_rfl⟩
instance has26 : Has E 26 (ir26) := ⟨by kernel_rfl⟩
instance has32 : Has E 32 (ir32) := ⟨by kernel_rfl⟩
instance has33 : Has E 33 (ir33) := ⟨by kernel_rfl⟩
instance has35 : Has E 35 (ir35) := ⟨by kernel_rfl⟩
instance has36 : Has E 36 (ir36) := ⟨by kernel_rfl⟩
instance has37 : Has E 37 (ir37) := ⟨by kernel_rfl⟩
instance has38 : Has E 38 (ir38) := ⟨by kernel_rfl⟩
instance has39 : Has E 39 (ir39) := ⟨by kernel_rfl⟩
instance has43 : Has E 43 (ir43) := ⟨by kernel_rfl⟩
instance has46 : Has E 46 (ir46) := ⟨by kernel_rfl⟩
instance has55 : Has E 55 (ir55) := ⟨by kernel_rfl⟩
instance has60 : Has E 60 (ir60) := ⟨by kernel_rfl⟩
instance has61 : Has E 61 (ir61) := ⟨by kernel_rfl⟩
instance has62 : Has E 62 (ir62) := ⟨by kernel_rfl⟩
instance has63 : Has E 63 (ir63) := ⟨by kernel_rfl⟩
instance has64 : Has E 64 (ir64) := ⟨by kernel_rfl⟩
instance has65 : Has E 65 (ir65) := ⟨by kernel_rfl⟩
instance has67 : Has E 67 (ir67) := ⟨by kernel_rfl⟩
instance has68 : Has E 68 (ir68) := ⟨by kernel_rfl⟩
instance has69 : Has E 69 (ir69) := ⟨by kernel_rfl⟩
instance has70 : Has E 70 (ir70) := ⟨by kernel_rfl⟩
instance has71 : Has E 71 (ir71) := ⟨by kernel_rfl⟩
instance has72 : Has E 72 (ir72) := ⟨by kernel_rfl⟩
instance has73 : Has E 73 (ir73) := ⟨by kernel_rfl⟩
instance has74 : Has E 74 (ir74) := ⟨by kernel_rfl⟩
instance has77 : Has E 77 (ir77) := ⟨by kernel_rfl⟩
instance has78 : Has E 78 (ir78) := ⟨by kernel_rfl⟩
instance has79 : Has E 79 (ir79) := ⟨by kernel_rfl⟩
instance has80 : Has E 80 (ir80) := ⟨by kernel_rfl⟩
instance has81 : Has E 81 (ir81) := ⟨by kernel_rfl⟩
instance has82 : Has E 82 (ir82) := ⟨by kernel_rfl⟩
instance has83 : Has E 83 (ir83) := ⟨by kernel_rfl⟩
instance has85 : Has E 85 (ir85) := ⟨by kernel_rfl⟩
instance has86 : Has E 86 (ir86) := ⟨by kernel_rfl⟩
instance has87 : Has E 87 (ir87) := ⟨by kernel_rfl⟩
instance has88 : Has E 88 (ir88) := ⟨by kernel_rfl⟩
instance has89 : Has E 89 (ir89) := ⟨by kernel_rfl⟩
instance has91 : Has E 91 (ir91) := ⟨by kernel_rfl⟩
instance has92 : Has E 92 (ir92) := ⟨by kernel_rfl⟩
instance has93 : Has E 93 (ir93) := ⟨by kernel_rfl⟩
instance has94 : Has E 94 (ir94) := ⟨by kernel_rfl⟩
instance has95 : Has E 95 (ir95) := ⟨by kernel_rfl⟩
instance has96 : Has E 96 (ir96 (rng 45)) := ⟨by kernel_rfl⟩
instance has97 : Has E 97 (ir97) := ⟨by kernel_rfl⟩
instance has98 : Has E 98 (ir98) := ⟨by kernel_rfl⟩
instance has100 : Has E 100 (ir100) := ⟨by kernel_rfl⟩
instance has103 : Has E 103 (ir103) := ⟨by kernel_rfl⟩
instance has104 : Has E 104 (ir104) := ⟨by kernel_rfl⟩
instance has105 : Has E 105 (ir105) := ⟨by kernel_rfl⟩
instance has106 : Has E 106 (ir106) := ⟨by kernel_rfl⟩
instance has107 : Has E 107 (ir107) := ⟨by kernel_rfl⟩
instance has108 : Has E 108 (ir108) := ⟨by kernel_rfl⟩
instance has110 : Has E 110 (ir110) := ⟨by kernel_rfl⟩
instance has111 : Has E 111 (ir111) := ⟨by kernel_rfl⟩
instance has112 : Has E 112 (ir112) := ⟨by kernel_rfl⟩
instance has114 : Has E 114 (ir114) := ⟨by kernel_rfl⟩
instance has115 : Has E 115 (ir115) := ⟨by kernel_rfl⟩
instance has116 : Has E 116 (ir116) := ⟨by kernel_rfl⟩
instance has118 : Has E 118 (ir118) := ⟨by kernel_rfl⟩
instance has119 : Has E 119 (ir119) := ⟨by kernel_rfl⟩
instance has120 : Has E 120 (ir120) := ⟨by kernel_rfl⟩
instance has121 : Has E 121 (ir121) := ⟨by kernel_rfl⟩
instance has122 : Has E 122 (ir122) := ⟨by kernel_rfl⟩
instance has123 : Has E 123 (ir123) := ⟨by kernel_rfl⟩
instance has124 : Has E 124 (ir124) := ⟨by kernel_rfl⟩
instance has125 : Has E 125 (ir125) := ⟨by kernel_rfl⟩
instance has126 : Has E 126 (ir126) := ⟨by kernel_rfl⟩
instance has127 : Has E 127 (ir127) := ⟨by kernel_rfl⟩
instance has128 : Has E 128 (ir128) := ⟨by kernel_rfl⟩
instance has129 : Has E 129 (ir129) := ⟨by kernel_rfl⟩
instance has130 : Has E 130 (ir130) := ⟨by kernel_rfl⟩
instance has131 : Has E 131 (ir131) := ⟨by kernel_rfl⟩
instance has132 : Has E 132 (ir132) := ⟨by kernel_rfl⟩
instance has133 : Has E 133 (ir133) := ⟨by kernel_rfl⟩
instance has134 : Has E 134 (ir134) := ⟨by kernel_rfl⟩
instance has135 : Has E 135 (ir135) := ⟨by kernel_rfl⟩
instance has136 : Has E 136 (ir136) := ⟨by kernel_rfl⟩
instance has137 : Has E 137 (ir137) := ⟨by kernel_rfl⟩
instance has138 : Has E 138 (ir138) := ⟨by kernel_rfl⟩
instance has139 : Has E 139 (ir139) := ⟨by kernel_rfl⟩
instance has140 : Has E 140 (ir140) := ⟨by kernel_rfl⟩
instance has141 : Has E 141 (ir141) := ⟨by kernel_rfl⟩
instance has142 : Has E 142 (ir142) := ⟨by kernel_rfl⟩
instance has143 : Has E 143 (ir143) := ⟨by kernel_rfl⟩
instance has144 : Has E 144 (ir144) := ⟨by kernel_rfl⟩
instance has145 : Has E 145 (ir145) := ⟨by kernel_rfl⟩
instance has146 : Has E 146 (ir146) := ⟨by kernel_rfl⟩
instance has147 : Has E 147 (ir147) := ⟨by kernel_rfl⟩
instance has371 : Has E 371 (ir371) := ⟨by kernel_rfl⟩
instance has372 : Has E 372 (ir372) := ⟨by kernel_rfl⟩
instance has373 : Has E 373 (ir373) := ⟨by kernel_rfl⟩
instance has374 : Has E 374 (ir374) := ⟨by kernel_rfl⟩
instance has375 : Has E 375 (ir375) := ⟨by kernel_rfl⟩
instance has376 : Has E 376 (ir376) := ⟨by kernel_rfl⟩
instance has377 : Has E 377 (ir377) := ⟨by kernel_rfl⟩
instance has378 : Has E 378 (ir378) := ⟨by kernel_rfl⟩
instance has379 : Has E 379 (ir379) := ⟨by kernel_rfl⟩
instance has380 : Has E 380 (ir380) := ⟨by kernel_rfl⟩
instance has381 : Has E 381 (ir381) := ⟨by kernel_rfl⟩
instance has386 : Has E 386 (ir386) := ⟨by kernel_rfl⟩
instance has387 : Has E 387 (ir387) := ⟨by kernel_rfl⟩
instance has389 : Has E 389 (ir389) := ⟨by kernel_rfl⟩
instance has391 : Has E 391 (ir391) := ⟨by kernel_rfl⟩
instance has392 : Has E 392 (ir392) := ⟨by kernel_rfl⟩
theorem ra96_0 : ccode E 36 ir96a0 (rng 45 0).1 = some ir96a0 := by kernel_rfl
theorem rb96_0 : ccode E 36 ir96b0 (rng 45 0).2 = some ir96b0 := by kernel_rfl
end Go.Proofs.YtacgibkgojnfeaaGreatDoor.AM
