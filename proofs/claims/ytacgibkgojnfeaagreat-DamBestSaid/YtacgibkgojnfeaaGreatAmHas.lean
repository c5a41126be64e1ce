/- The functions of the small language are the program's. Conditions: none. -/
import Derived.Test.YtacgibkgojnfeaaGreatAmFns
import Derived.Test.YtacgibkgojnfeaaGreatAmFns1
import Derived.Test.YtacgibkgojnfeaaGreatProg
import Derived.KernelRfl
namespace Go.Proofs.YtacgibkgojnfeaaGreat.AM
set_option linter.unusedSimpArgs false
set_option linter.unusedVariables false
open Go Go.RowKit

def tbl : List (Nat × FuncId) := [(10, 6), (11, 70), (13, 29), (15, 16), (20, 91), (22, 27), (26, 30), (32, 42), (33, 58), (34, 19), (36, 25), (43, 88), (51, 11), (52, 12), (53, 9), (55, 8), (56, 56), (57, 20), (60, 24), (61, 26), (62, 28), (63, 31), (64, 62), (65, 71), (67, 110), (68, 111), (69, 112), (70, 89), (71, 113), (72, 68), (73, 37), (74, 69), (77, 35), (78, 74), (79, 63), (80, 64), (81, 65), (82, 66), (83, 67), (85, 105), (86, 106), (87, 107), (88, 108), (89, 90), (93, 32), (94, 33), (95, 34), (96, 36), (97, 38), (98, 39), (99, 87), (100, 57), (101, 59), (102, 41), (103, 92), (104, 93), (105, 94), (106, 95), (107, 96), (108, 97), (109, 78), (110, 119), (111, 120), (112, 109), (114, 40), (115, 72), (116, 73), (117, 60), (118, 114), (119, 115), (120, 116), (121, 117), (122, 121), (123, 122), (124, 98), (125, 99), (126, 123), (127, 124), (128, 125), (129, 126), (130, 127), (131, 128), (132, 129), (133, 130), (134, 131), (135, 132), (136, 133), (137, 134), (138, 118), (139, 136), (140, 137), (141, 138), (142, 139), (143, 140), (144, 141), (145, 135), (146, 142), (147, 143), (178, 7), (180, 15), (264, 4), (265, 10), (268, 17), (269, 18), (273, 46), (274, 47), (280, 54), (281, 55), (285, 79), (287, 81), (290, 84), (291, 85), (292, 86), (295, 102), (297, 104)]
noncomputable def E : Env := ⟨Tryz.prog, tbl⟩
instance : Mixed E := ⟨by kernel_rfl⟩

def rangesOf : Code → List (Code × Code)
  | .rangeFunc _ _ a b => [(a, b)]
  | .seq a b | .cond _ a b => rangesOf a ++ rangesOf b
  | .block _ a | .loop a => rangesOf a
  | _ => []
noncomputable def rng (f : FuncId) (i : Nat) : Code × Code := ((match E.P.funcs[f]? with | some fn => rangesOf (fn.body.getD .skip) | none => [])[i]?).getD (.skip, .skip)
instance has10 : Has E 10 (ir10) := ⟨by kernel_rfl⟩
instance has11 : Has E 11 (ir11) := ⟨by kernel_rfl⟩
instance has13 : Has E 13 (ir13) := ⟨by kernel_rfl⟩
instance has15 : Has E 15 (ir15) := ⟨by kernel_rfl⟩
instance has20 : Has E 20 (ir20) := ⟨by kernel_rfl⟩
instance has22 : Has E 22 (ir22) := ⟨by kernel_rfl⟩
instance has26 : Has E 26 (ir26) := ⟨by kernel_rfl⟩
instance has32 : Has E 32 (ir32) := ⟨by kernel_rfl⟩
instance has33 : Has E 33 (ir33) := ⟨by kernel_rfl⟩
instance has34 : Has E 34 (ir34) := ⟨by kernel_rfl⟩
instance has36 : Has E 36 (ir36) := ⟨by kernel_rfl⟩
instance has43 : Has E 43 (ir43) := ⟨by kernel_rfl⟩
instance has51 : Has E 51 (ir51) := ⟨by kernel_rfl⟩
instance has52 : Has E 52 (ir52) := ⟨by kernel_rfl⟩
instance has53 : Has E 53 (ir53) := ⟨by kernel_rfl⟩
instance has55 : Has E 55 (ir55) := ⟨by kernel_rfl⟩
instance has56 : Has E 56 (ir56) := ⟨by kernel_rfl⟩
instance has57 : Has E 57 (ir57) := ⟨by kernel_rfl⟩
instance has60 : Has E 60 (ir60) := ⟨by kernel_rfl⟩
instance has61 : Has E 61 (ir61) := ⟨by kernel_rfl⟩
instance has62 : Has E 62 (ir62) := ⟨by kernel_rfl⟩
instance has63 : Has E 63 (ir63) := ⟨by kernel_rfl⟩
instance has64 : Has E 64 (ir64) := ⟨by kernel_rfl⟩
instance has65 : Has E 65 (ir65) := ⟨by kernel_rfl⟩
instance has67 : Has E 67 (ir67) := ⟨by kernel_rfl⟩
instance has68 : Has E 68 (ir68) := ⟨by kernel_rfl⟩
instance has69 : Has E 69 (ir69) := ⟨by kernel_rfl⟩
instance has70 : Has E 70 (ir70) := ⟨by kernel_rfl⟩
instance has71 : Has E 71 (ir71) := ⟨by kernel_rfl⟩
instance has72 : Has E 72 (ir72) := ⟨by kernel_rfl⟩
instance has73 : Has E 73 (ir73) := ⟨by kernel_rfl⟩
instance has74 : Has E 74 (ir74) := ⟨by kernel_rfl⟩
instance has77 : Has E 77 (ir77) := ⟨by kernel_rfl⟩
instance has78 : Has E 78 (ir78) := ⟨by kernel_rfl⟩
instance has79 : Has E 79 (ir79) := ⟨by kernel_rfl⟩
instance has80 : Has E 80 (ir80) := ⟨by kernel_rfl⟩
instance has81 : Has E 81 (ir81) := ⟨by kernel_rfl⟩
instance has82 : Has E 82 (ir82) := ⟨by kernel_rfl⟩
instance has83 : Has E 83 (ir83) := ⟨by kernel_rfl⟩
instance has85 : Has E 85 (ir85) := ⟨by kernel_rfl⟩
instance has86 : Has E 86 (ir86) := ⟨by kernel_rfl⟩
instance has87 : Has E 87 (ir87) := ⟨by kernel_rfl⟩
instance has88 : Has E 88 (ir88) := ⟨by kernel_rfl⟩
instance has89 : Has E 89 (ir89) := ⟨by kernel_rfl⟩
instance has93 : Has E 93 (ir93) := ⟨by kernel_rfl⟩
instance has94 : Has E 94 (ir94) := ⟨by kernel_rfl⟩
instance has95 : Has E 95 (ir95) := ⟨by kernel_rfl⟩
instance has96 : Has E 96 (ir96 (rng 36)) := ⟨by kernel_rfl⟩
instance has97 : Has E 97 (ir97) := ⟨by kernel_rfl⟩
instance has98 : Has E 98 (ir98) := ⟨by kernel_rfl⟩
instance has99 : Has E 99 (ir99) := ⟨by kernel_rfl⟩
instance has100 : Has E 100 (ir100) := ⟨by kernel_rfl⟩
instance has101 : Has E 101 (ir101) := ⟨by kernel_rfl⟩
instance has102 : Has E 102 (ir102) := ⟨by kernel_rfl⟩
instance has103 : Has E 103 (ir103) := ⟨by kernel_rfl⟩
instance has104 : Has E 104 (ir104) := ⟨by kernel_rfl⟩
instance has105 : Has E 105 (ir105) := ⟨by kernel_rfl⟩
instance has106 : Has E 106 (ir106) := ⟨by kernel_rfl⟩
instance has107 : Has E 107 (ir107) := ⟨by kernel_rfl⟩
instance has108 : Has E 108 (ir108) := ⟨by kernel_rfl⟩
instance has109 : Has E 109 (ir109) := ⟨by kernel_rfl⟩
instance has110 : Has E 110 (ir110) := ⟨by kernel_rfl⟩
instance has111 : Has E 111 (ir111) := ⟨by kernel_rfl⟩
instance has112 : Has E 112 (ir112) := ⟨by kernel_rfl⟩
instance has114 : Has E 114 (ir114) := ⟨by kernel_rfl⟩
instance has115 : Has E 115 (ir115) := ⟨by kernel_rfl⟩
instance has116 : Has E 116 (ir116) := ⟨by kernel_rfl⟩
instance has117 : Has E 117 (ir117) := ⟨by kernel_rfl⟩
instance has118 : Has E 118 (ir118) := ⟨by kernel_rfl⟩
instance has119 : Has E 119 (ir119) := ⟨by kernel_rfl⟩
instance has120 : Has E 120 (ir120) := ⟨by kernel_rfl⟩
instance has121 : Has E 121 (ir121) := ⟨by kernel_rfl⟩
instance has122 : Has E 122 (ir122) := ⟨by kernel_rfl⟩
instance has123 : Has E 123 (ir123) := ⟨by kernel_rfl⟩
instance has124 : Has E 124 (ir124) := ⟨by kernel_rfl⟩
instance has125 : Has E 125 (ir125) := ⟨by kernel_rfl⟩
instance has126 : Has E 126 (ir126) := ⟨by kernel_rfl⟩
instance has127 : Has E 127 (ir127) := ⟨by kernel_rfl⟩
instance has128 : Has E 128 (ir128) := ⟨by kernel_rfl⟩
instance has129 : Has E 129 (ir129) := ⟨by kernel_rfl⟩
instance has130 : Has E 130 (ir130) := ⟨by kernel_rfl⟩
instance has131 : Has E 131 (ir131) := ⟨by kernel_rfl⟩
instance has132 : Has E 132 (ir132) := ⟨by kernel_rfl⟩
instance has133 : Has E 133 (ir133) := ⟨by kernel_rfl⟩
instance has134 : Has E 134 (ir134) := ⟨by kernel_rfl⟩
instance has135 : Has E 135 (ir135) := ⟨by kernel_rfl⟩
instance has136 : Has E 136 (ir136) := ⟨by kernel_rfl⟩
instance has137 : Has E 137 (ir137) := ⟨by kernel_rfl⟩
instance has138 : Has E 138 (ir138) := ⟨by kernel_rfl⟩
instance has139 : Has E 139 (ir139) := ⟨by kernel_rfl⟩
instance has140 : Has E 140 (ir140) := ⟨by kernel_rfl⟩
instance has141 : Has E 141 (ir141) := ⟨by kernel_rfl⟩
instance has142 : Has E 142 (ir142) := ⟨by kernel_rfl⟩
instance has143 : Has E 143 (ir143) := ⟨by kernel_rfl⟩
instance has144 : Has E 144 (ir144) := ⟨by kernel_rfl⟩
instance has145 : Has E 145 (ir145) := ⟨by kernel_rfl⟩
instance has146 : Has E 146 (ir146) := ⟨by kernel_rfl⟩
instance has147 : Has E 147 (ir147) := ⟨by kernel_rfl⟩
instance has178 : Has E 178 (ir178) := ⟨by kernel_rfl⟩
instance has180 : Has E 180 (ir180) := ⟨by kernel_rfl⟩
instance has264 : Has E 264 (ir264) := ⟨by kernel_rfl⟩
instance has265 : Has E 265 (ir265) := ⟨by kernel_rfl⟩
instance has268 : Has E 268 (ir268) := ⟨by kernel_rfl⟩
instance has269 : Has E 269 (ir269) := ⟨by kernel_rfl⟩
instance has273 : Has E 273 (ir273) := ⟨by kernel_rfl⟩
instance has274 : Has E 274 (ir274) := ⟨by kernel_rfl⟩
instance has280 : Has E 280 (ir280) := ⟨by kernel_rfl⟩
instance has281 : Has E 281 (ir281) := ⟨by kernel_rfl⟩
instance has285 : Has E 285 (ir285) := ⟨by kernel_rfl⟩
instance has287 : Has E 287 (ir287) := ⟨by kernel_rfl⟩
instance has290 : Has E 290 (ir290) := ⟨by kernel_rfl⟩
instance has291 : Has E 291 (ir291) := ⟨by kernel_rfl⟩
instance has292 : Has E 292 (ir292) := ⟨by kernel_rfl⟩
instance has295 : Has E 295 (ir295) := ⟨by kernel_rfl⟩
instance has297 : Has E 297 (ir297) := ⟨by kernel_rfl⟩
theorem ra96_0 : ccode E 36 ir96a0 (rng 36 0).1 = some ir96a0 := by kernel_rfl
theorem rb96_0 : ccode E 36 ir96b0 (rng 36 0).2 = some ir96b0 := by kernel_rfl
end Go.Proofs.YtacgibkgojnfeaaGreat.AM
