/- The functions of the small language are the program's. Conditions: none. -/
import Derived.Test.YtmbekcealcjabaaGreatAmFns
import Derived.Test.YtmbekcealcjabaaGreatAmFns1
import Derived.Test.YtmbekcealcjabaaGreatProg
import Derived.KernelRfl
namespace Go.Proofs.YtmbekcealcjabaaGreat.AM
set_option linter.unusedSimpArgs false
set_option linter.unusedVariables false
open Go Go.RowKit

def tbl : List (Nat × FuncId) := [(15, 20), (26, 21), (38, 34), (70, 124), (73, 111), (80, 99), (91, 114), (103, 125), (106, 137), (108, 139), (118, 144), (119, 145), (120, 146), (121, 147), (122, 156), (126, 150), (127, 151), (128, 152), (129, 153), (130, 154), (131, 155), (132, 157), (133, 158), (134, 159), (135, 160), (136, 161), (137, 162), (138, 106), (139, 163), (140, 164), (141, 165), (142, 166), (143, 167), (144, 168), (145, 136), (146, 169), (147, 170), (198, 12), (201, 66), (206, 15), (207, 64), (208, 65), (209, 27), (210, 51), (211, 67), (212, 18), (213, 71), (214, 70), (215, 141), (216, 72), (217, 118), (218, 119), (219, 68), (220, 69), (221, 84), (222, 82), (223, 85), (224, 105), (225, 108), (226, 107), (227, 109), (228, 110), (229, 73), (230, 74), (231, 75), (232, 76), (233, 77), (234, 78), (235, 89), (236, 140), (237, 36), (238, 120), (239, 121), (240, 127), (241, 128), (242, 129), (243, 130), (244, 48), (245, 138), (246, 122), (247, 123), (248, 126), (249, 35), (250, 91), (251, 142), (252, 103), (253, 104), (254, 90), (255, 143), (256, 86), (257, 87), (258, 88), (259, 135), (260, 148), (261, 149), (262, 131), (304, 9), (334, 49), (335, 50), (336, 52), (337, 53), (338, 54), (339, 55), (340, 56), (341, 57), (343, 59), (344, 60), (362, 112), (363, 113), (364, 115), (365, 116), (366, 117)]
noncomputable def E : Env := ⟨Tryz.prog, tbl⟩
instance : Mixed E := ⟨by kernel_rfl⟩

def rangesOf : Code → List (Code × Code)
  | .rangeFunc _ _ a b => [(a, b)]
  | .seq a b | .cond _ a b => rangesOf a ++ rangesOf b
  | .block _ a | .loop a => rangesOf a
  | _ => []
noncomputable def rng (f : FuncId) (i : Nat) : Code × Code := ((match E.P.funcs[f]? with | some fn => rangesOf (fn.body.getD .skip) | none => [])[i]?).getD (.skip, .skip)
instance has15 : Has E 15 (ir15) := ⟨by kernel_rfl⟩
instance has26 : Has E 26 (ir26) := ⟨by kernel_rfl⟩
instance has38 : Has E 38 (ir38) := ⟨by kernel_rfl⟩
instance has70 : Has E 70 (ir70) := ⟨by kernel_rfl⟩
instance has73 : Has E 73 (ir73) := ⟨by kernel_rfl⟩
instance has80 : Has E 80 (ir80) := ⟨by kernel_rfl⟩
instance has91 : Has E 91 (ir91) := ⟨by kernel_rfl⟩
instance has103 : Has E 103 (ir103) := ⟨by kernel_rfl⟩
instance has106 : Has E 106 (ir106) := ⟨by kernel_rfl⟩
instance has108 : Has E 108 (ir108) := ⟨by kernel_rfl⟩
instance has118 : Has E 118 (ir118) := ⟨by kernel_rfl⟩
instance has119 : Has E 119 (ir119) := ⟨by kernel_rfl⟩
instance has120 : Has E 120 (ir120) := ⟨by kernel_rfl⟩
instance has121 : Has E 121 (ir121) := ⟨by kernel_rfl⟩
instance has122 : Has E 122 (ir122) := ⟨by kernel_rfl⟩
instance has126 : Has E 126 (ir126) := ⟨by kernel_rfl⟩
instance has134 : Has E 134 (ir134) := ⟨by kernel_rfl⟩
instance has135 : Has E 135 (ir135) := ⟨by kernel_rfl⟩
instance has136 : Has E 136 (ir136) := ⟨by kernel_rfl⟩
instance has137 : Has E 137 (ir137) := ⟨by kernel_rfl⟩
instance has138 : Has E 138 (ir138) := ⟨by kernel_rfl⟩
instance has145 : Has E 145 (ir145) := ⟨by kernel_rfl⟩
instance has198 : Has E 198 (ir198) := ⟨by kernel_rfl⟩
instance has201 : Has E 201 (ir201) := ⟨by kernel_rfl⟩
instance has206 : Has E 206 (ir206) := ⟨by kernel_rfl⟩
instance has207 : Has E 207 (ir207) := ⟨by kernel_rfl⟩
instance has208 : Has E 208 (ir208) := ⟨by kernel_rfl⟩
instance has209 : Has E 209 (ir209) := ⟨by kernel_rfl⟩
instance has210 : Has E 210 (ir210) := ⟨by kernel_rfl⟩
instance has211 : Has E 211 (ir211) := ⟨by kernel_rfl⟩
instance has212 : Has E 212 (ir212) := ⟨by kernel_rfl⟩
instance has213 : Has E 213 (ir213) := ⟨by kernel_rfl⟩
instance has214 : Has E 214 (ir214) := ⟨by kernel_rfl⟩
instance has215 : Has E 215 (ir215) := ⟨by kernel_rfl⟩
instance has216 : Has E 216 (ir216) := ⟨by kernel_rfl⟩
instance has217 : Has E 217 (ir217) := ⟨by kernel_rfl⟩
instance has218 : Has E 218 (ir218) := ⟨by kernel_rfl⟩
instance has219 : Has E 219 (ir219) := ⟨by kernel_rfl⟩
instance has220 : Has E 220 (ir220 (rng 69)) := ⟨by kernel_rfl⟩
instance has221 : Has E 221 (ir221) := ⟨by kernel_rfl⟩
instance has222 : Has E 222 (ir222) := ⟨by kernel_rfl⟩
instance has223 : Has E 223 (ir223) := ⟨by kernel_rfl⟩
instance has224 : Has E 224 (ir224) := ⟨by kernel_rfl⟩
instance has225 : Has E 225 (ir225) := ⟨by kernel_rfl⟩
instance has226 : Has E 226 (ir226) := ⟨by kernel_rfl⟩
instance has227 : Has E 227 (ir227) := ⟨by kernel_rfl⟩
instance has228 : Has E 228 (ir228) := ⟨by kernel_rfl⟩
instance has229 : Has E 229 (ir229 (rng 73)) := ⟨by kernel_rfl⟩
instance has230 : Has E 230 (ir230) := ⟨by kernel_rfl⟩
instance has231 : Has E 231 (ir231 (rng 75)) := ⟨by kernel_rfl⟩
instance has232 : Has E 232 (ir232) := ⟨by kernel_rfl⟩
instance has233 : Has E 233 (ir233) := ⟨by kernel_rfl⟩
instance has234 : Has E 234 (ir234) := ⟨by kernel_rfl⟩
instance has235 : Has E 235 (ir235) := ⟨by kernel_rfl⟩
instance has236 : Has E 236 (ir236) := ⟨by kernel_rfl⟩
instance has237 : Has E 237 (ir237) := ⟨by kernel_rfl⟩
instance has238 : Has E 238 (ir238) := ⟨by kernel_rfl⟩
instance has239 : Has E 239 (ir239) := ⟨by kernel_rfl⟩
instance has240 : Has E 240 (ir240) := ⟨by kernel_rfl⟩
instance has241 : Has E 241 (ir241) := ⟨by kernel_rfl⟩
instance has242 : Has E 242 (ir242) := ⟨by kernel_rfl⟩
instance has243 : Has E 243 (ir243) := ⟨by kernel_rfl⟩
instance has244 : Has E 244 (ir244) := ⟨by kernel_rfl⟩
instance has245 : Has E 245 (ir245) := ⟨by kernel_rfl⟩
instance has246 : Has E 246 (ir246) := ⟨by kernel_rfl⟩
instance has247 : Has E 247 (ir247) := ⟨by kernel_rfl⟩
instance has248 : Has E 248 (ir248) := ⟨by kernel_rfl⟩
instance has249 : Has E 249 (ir249) := ⟨by kernel_rfl⟩
instance has250 : Has E 250 (ir250) := ⟨by kernel_rfl⟩
instance has251 : Has E 251 (ir251) := ⟨by kernel_rfl⟩
instance has252 : Has E 252 (ir252) := ⟨by kernel_rfl⟩
instance has253 : Has E 253 (ir253) := ⟨by kernel_rfl⟩
instance has254 : Has E 254 (ir254) := ⟨by kernel_rfl⟩
instance has255 : Has E 255 (ir255) := ⟨by kernel_rfl⟩
instance has256 : Has E 256 (ir256) := ⟨by kernel_rfl⟩
instance has257 : Has E 257 (ir257) := ⟨by kernel_rfl⟩
instance has258 : Has E 258 (ir258) := ⟨by kernel_rfl⟩
instance has259 : Has E 259 (ir259) := ⟨by kernel_rfl⟩
instance has260 : Has E 260 (ir260) := ⟨by kernel_rfl⟩
instance has261 : Has E 261 (ir261) := ⟨by kernel_rfl⟩
instance has262 : Has E 262 (ir262) := ⟨by kernel_rfl⟩
instance has304 : Has E 304 (ir304) := ⟨by kernel_rfl⟩
instance has334 : Has E 334 (ir334) := ⟨by kernel_rfl⟩
instance has335 : Has E 335 (ir335) := ⟨by kernel_rfl⟩
instance has336 : Has E 336 (ir336) := ⟨by kernel_rfl⟩
instance has337 : Has E 337 (ir337) := ⟨by kernel_rfl⟩
instance has338 : Has E 338 (ir338) := ⟨by kernel_rfl⟩
instance has339 : Has E 339 (ir339) := ⟨by kernel_rfl⟩
instance has340 : Has E 340 (ir340) := ⟨by kernel_rfl⟩
instance has341 : Has E 341 (ir341) := ⟨by kernel_rfl⟩
instance has343 : Has E 343 (ir343) := ⟨by kernel_rfl⟩
instance has344 : Has E 344 (ir344) := ⟨by kernel_rfl⟩
instance has362 : Has E 362 (ir362) := ⟨by kernel_rfl⟩
instance has363 : Has E 363 (ir363) := ⟨by kernel_rfl⟩
instance has364 : Has E 364 (ir364) := ⟨by kernel_rfl⟩
instance has365 : Has E 365 (ir365) := ⟨by kernel_rfl⟩
instance has366 : Has E 366 (ir366) := ⟨by kernel_rfl⟩
theorem ra220_0 : ccode E 92 ir220a0 (rng 69 0).1 = some ir220a0 := by kernel_rfl
theorem rb220_0 : ccode E 92 ir220b0 (rng 69 0).2 = some ir220b0 := by kernel_rfl
theorem ra229_0 : ccode E 117 ir229a0 (rng 73 0).1 = some ir229a0 := by kernel_rfl
theorem rb229_0 : ccode E 117 ir229b0 (rng 73 0).2 = some ir229b0 := by kernel_rfl
theorem ra231_0 : ccode E 43 ir231a0 (rng 75 0).1 = some ir231a0 := by kernel_rfl
theorem rb231_0 : ccode E 43 ir231b0 (rng 75 0).2 = some ir231b0 := by kernel_rfl
end Go.Proofs.YtmbekcealcjabaaGreat.AM
