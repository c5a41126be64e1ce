/- The functions of the small language are the program's. Conditions: none. -/
import Derived.Test.YtfdapegcngmknaaGreatAmFns
import Derived.Test.YtfdapegcngmknaaGreatAmFns1
import Derived.Test.YtfdapegcngmknaaGreatProg
import Derived.KernelRfl
namespace Go.Proofs.YtfdapegcngmknaaGreat.AM
set_option linter.unusedSimpArgs false
set_option linter.unusedVariables false
open Go Go.RowKit

def tbl : List (Nat × FuncId) := [(10, 8), (11, 92), (13, 49), (15, 19), (20, 107), (22, 47), (26, 50), (33, 75), (35, 9), (36, 20), (37, 11), (38, 21), (39, 12), (40, 17), (43, 95), (44, 18), (45, 16), (46, 58), (48, 13), (55, 43), (60, 45), (61, 46), (62, 48), (63, 52), (64, 53), (65, 57), (67, 122), (68, 123), (69, 124), (70, 97), (71, 125), (72, 90), (73, 87), (74, 91), (77, 85), (78, 101), (79, 63), (80, 65), (81, 66), (82, 61), (83, 62), (85, 114), (86, 115), (87, 116), (88, 54), (89, 64), (90, 51), (91, 59), (92, 60), (93, 71), (94, 83), (95, 84), (96, 86), (97, 88), (98, 72), (100, 74), (103, 108), (104, 109), (105, 110), (106, 111), (107, 112), (108, 113), (110, 55), (111, 94), (112, 96), (113, 93), (114, 105), (115, 106), (116, 100), (118, 126), (119, 127), (120, 128), (121, 129), (122, 117), (123, 118), (124, 120), (125, 121), (126, 131), (127, 132), (128, 133), (129, 134), (130, 135), (131, 136), (132, 137), (133, 138), (134, 139), (135, 140), (136, 141), (137, 142), (138, 130), (139, 144), (140, 145), (141, 146), (142, 147), (143, 148), (144, 149), (145, 143), (146, 150), (147, 151), (164, 3), (165, 4), (169, 10), (170, 14), (171, 15), (185, 56)]
noncomputable def E : Env := ⟨Tryz.prog, tbl⟩
instance : Mixed E := ⟨by kernel_rfl⟩

def rangesOf : Code → List (Code × Code)
  | .rangeFunc _ _ a b => [(a, b)]
  | .seq a b | .cond _ a b => rangesOf a ++ rangesOf b
  | .block _ a | .loop a => rangesOf a
  | _ => []
noncomputable def rng (f : FuncId) (i : Nat) : Code × Code := ((match E.P.funcs[f]? with | some fn => rangesOf (fn.body.getD .skip) | none => [])[i]?).getD (.skip, .skip)
instance has10 : Has E 10 (ir10) := ⟨by kernel_rfl⟩
instance has11 : Has E 11 (ir11) := ⟨by kernel_rfl⟩
instance has13 : Has E 13 (ir13) := ⟨by kernel_rfl⟩
instance has15 : Has E 15 (ir15) := ⟨by kernel_rfl⟩
instance has20 : Has E 20 (ir20) := ⟨by kernel_rfl⟩
instance has22 : Has E 22 (ir22) := ⟨by kernel_rfl⟩
instance has26 : Has E 26 (ir26) := ⟨by kernel_rfl⟩
instance has33 : Has E 33 (ir33) := ⟨by kernel_rfl⟩
instance has35 : Has E 35 (ir35) := ⟨by kernel_rfl⟩
instance has36 : Has E 36 (ir36) := ⟨by kernel_rfl⟩
instance has37 : Has E 37 (ir37) := ⟨by kernel_rfl⟩
instance has38 : Has E 38 (ir38) := ⟨by kernel_rfl⟩
instance has39 : Has E 39 (ir39) := ⟨by kernel_rfl⟩
instance has40 : Has E 40 (ir40) := ⟨by kernel_rfl⟩
instance has43 : Has E 43 (ir43) := ⟨by kernel_rfl⟩
instance has44 : Has E 44 (ir44) := ⟨by kernel_rfl⟩
instance has45 : Has E 45 (ir45) := ⟨by kernel_rfl⟩
instance has46 : Has E 46 (ir46) := ⟨by kernel_rfl⟩
instance has48 : Has E 48 (ir48) := ⟨by kernel_rfl⟩
instance has55 : Has E 55 (ir55) := ⟨by kernel_rfl⟩
instance has60 : Has E 60 (ir60) := ⟨by kernel_rfl⟩
instance has61 : Has E 61 (ir61) := ⟨by kernel_rfl⟩
instance has62 : Has E 62 (ir62) := ⟨by kernel_rfl⟩
instance has63 : Has E 63 (ir63) := ⟨by kernel_rfl⟩
instance has64 : Has E 64 (ir64) := ⟨by kernel_rfl⟩
instance has65 : Has E 65 (ir65) := ⟨by kernel_rfl⟩
instance has67 : Has E 67 (ir67) := ⟨by kernel_rfl⟩
instance has68 : Has E 68 (ir68) := ⟨by kernel_rfl⟩
instance has69 : Has E 69 (ir69) := ⟨by kernel_rfl⟩
instance has70 : Has E 70 (ir70) := ⟨by kernel_rfl⟩
instance has71 : Has E 71 (ir71) := ⟨by kernel_rfl⟩
instance has72 : Has E 72 (ir72) := ⟨by kernel_rfl⟩
instance has73 : Has E 73 (ir73) := ⟨by kernel_rfl⟩
instance has74 : Has E 74 (ir74) := ⟨by kernel_rfl⟩
instance has77 : Has E 77 (ir77) := ⟨by kernel_rfl⟩
instance has78 : Has E 78 (ir78) := ⟨by kernel_rfl⟩
instance has79 : Has E 79 (ir79) := ⟨by kernel_rfl⟩
instance has80 : Has E 80 (ir80) := ⟨by kernel_rfl⟩
instance has81 : Has E 81 (ir81) := ⟨by kernel_rfl⟩
instance has82 : Has E 82 (ir82) := ⟨by kernel_rfl⟩
instance has83 : Has E 83 (ir83) := ⟨by kernel_rfl⟩
instance has85 : Has E 85 (ir85) := ⟨by kernel_rfl⟩
instance has86 : Has E 86 (ir86) := ⟨by kernel_rfl⟩
instance has87 : Has E 87 (ir87) := ⟨by kernel_rfl⟩
instance has88 : Has E 88 (ir88) := ⟨by kernel_rfl⟩
instance has89 : Has E 89 (ir89) := ⟨by kernel_rfl⟩
instance has90 : Has E 90 (ir90) := ⟨by kernel_rfl⟩
instance has91 : Has E 91 (ir91) := ⟨by kernel_rfl⟩
instance has92 : Has E 92 (ir92) := ⟨by kernel_rfl⟩
instance has93 : Has E 93 (ir93) := ⟨by kernel_rfl⟩
instance has94 : Has E 94 (ir94) := ⟨by kernel_rfl⟩
instance has95 : Has E 95 (ir95) := ⟨by kernel_rfl⟩
instance has96 : Has E 96 (ir96 (rng 86)) := ⟨by kernel_rfl⟩
instance has97 : Has E 97 (ir97) := ⟨by kernel_rfl⟩
instance has98 : Has E 98 (ir98) := ⟨by kernel_rfl⟩
instance has100 : Has E 100 (ir100) := ⟨by kernel_rfl⟩
instance has103 : Has E 103 (ir103) := ⟨by kernel_rfl⟩
instance has104 : Has E 104 (ir104) := ⟨by kernel_rfl⟩
instance has105 : Has E 105 (ir105) := ⟨by kernel_rfl⟩
instance has106 : Has E 106 (ir106) := ⟨by kernel_rfl⟩
instance has107 : Has E 107 (ir107) := ⟨by kernel_rfl⟩
instance has108 : Has E 108 (ir108) := ⟨by kernel_rfl⟩
instance has110 : Has E 110 (ir110) := ⟨by kernel_rfl⟩
instance has111 : Has E 111 (ir111) := ⟨by kernel_rfl⟩
instance has112 : Has E 112 (ir112) := ⟨by kernel_rfl⟩
instance has113 : Has E 113 (ir113) := ⟨by kernel_rfl⟩
instance has114 : Has E 114 (ir114) := ⟨by kernel_rfl⟩
instance has115 : Has E 115 (ir115) := ⟨by kernel_rfl⟩
instance has116 : Has E 116 (ir116) := ⟨by kernel_rfl⟩
instance has118 : Has E 118 (ir118) := ⟨by kernel_rfl⟩
instance has119 : Has E 119 (ir119) := ⟨by kernel_rfl⟩
instance has120 : Has E 120 (ir120) := ⟨by kernel_rfl⟩
instance has121 : Has E 121 (ir121) := ⟨by kernel_rfl⟩
instance has122 : Has E 122 (ir122) := ⟨by kernel_rfl⟩
instance has123 : Has E 123 (ir123) := ⟨by kernel_rfl⟩
instance has124 : Has E 124 (ir124) := ⟨by kernel_rfl⟩
instance has125 : Has E 125 (ir125) := ⟨by kernel_rfl⟩
instance has126 : Has E 126 (ir126) := ⟨by kernel_rfl⟩
instance has127 : Has E 127 (ir127) := ⟨by kernel_rfl⟩
instance has128 : Has E 128 (ir128) := ⟨by kernel_rfl⟩
instance has129 : Has E 129 (ir129) := ⟨by kernel_rfl⟩
instance has130 : Has E 130 (ir130) := ⟨by kernel_rfl⟩
instance has131 : Has E 131 (ir131) := ⟨by kernel_rfl⟩
instance has132 : Has E 132 (ir132) := ⟨by kernel_rfl⟩
instance has133 : Has E 133 (ir133) := ⟨by kernel_rfl⟩
instance has134 : Has E 134 (ir134) := ⟨by kernel_rfl⟩
instance has135 : Has E 135 (ir135) := ⟨by kernel_rfl⟩
instance has136 : Has E 136 (ir136) := ⟨by kernel_rfl⟩
instance has137 : Has E 137 (ir137) := ⟨by kernel_rfl⟩
instance has138 : Has E 138 (ir138) := ⟨by kernel_rfl⟩
instance has139 : Has E 139 (ir139) := ⟨by kernel_rfl⟩
instance has140 : Has E 140 (ir140) := ⟨by kernel_rfl⟩
instance has141 : Has E 141 (ir141) := ⟨by kernel_rfl⟩
instance has142 : Has E 142 (ir142) := ⟨by kernel_rfl⟩
instance has143 : Has E 143 (ir143) := ⟨by kernel_rfl⟩
instance has144 : Has E 144 (ir144) := ⟨by kernel_rfl⟩
instance has145 : Has E 145 (ir145) := ⟨by kernel_rfl⟩
instance has146 : Has E 146 (ir146) := ⟨by kernel_rfl⟩
instance has147 : Has E 147 (ir147) := ⟨by kernel_rfl⟩
instance has164 : Has E 164 (ir164) := ⟨by kernel_rfl⟩
instance has165 : Has E 165 (ir165) := ⟨by kernel_rfl⟩
instance has169 : Has E 169 (ir169) := ⟨by kernel_rfl⟩
instance has170 : Has E 170 (ir170) := ⟨by kernel_rfl⟩
instance has171 : Has E 171 (ir171) := ⟨by kernel_rfl⟩
instance has185 : Has E 185 (ir185) := ⟨by kernel_rfl⟩
end Go.Proofs.YtfdapegcngmknaaGreat.AM
