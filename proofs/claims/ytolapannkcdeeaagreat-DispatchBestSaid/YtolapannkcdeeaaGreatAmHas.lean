/- The functions of the small language are the program's. Conditions: none. -/
import Derived.Test.YtolapannkcdeeaaGreatAmFns
import Derived.Test.YtolapannkcdeeaaGreatAmFns1
import Derived.Test.YtolapannkcdeeaaGreatProg
import Derived.KernelRfl
namespace Go.Proofs.YtolapannkcdeeaaGreat.AM
set_option linter.unusedSimpArgs false
set_option linter.unusedVariables false
open Go Go.RowKit
def tbl : List (Nat × FuncId) := [(15, 12), (26, 13), (70, 53), (73, 47), (80, 58), (91, 107), (103, 54), (106, 66), (118, 72), (119, 73), (120, 79), (121, 106), (122, 91), (126, 85), (127, 86), (128, 87), (129, 88), (130, 89), (131, 90), (132, 92), (133, 93), (134, 94), (135, 95), (136, 98), (137, 99), (139, 101), (140, 102), (141, 103), (142, 104), (143, 105), (144, 109), (146, 110), (147, 111), (198, 4), (201, 19), (206, 7), (207, 16), (208, 17), (209, 18), (210, 20), (211, 21), (212, 10), (213, 25), (214, 24), (215, 64), (216, 26), (217, 40), (218, 41), (219, 22), (220, 23), (221, 37), (222, 38), (223, 39), (224, 42), (225, 43), (226, 44), (227, 45), (228, 46), (229, 27), (230, 28), (231, 29), (232, 30), (233, 31), (234, 32), (235, 75), (236, 63), (237, 48), (238, 49), (239, 50), (240, 59), (241, 60), (242, 61), (243, 62), (244, 65), (245, 67), (246, 51), (247, 52), (248, 55), (249, 68), (250, 69), (251, 70), (252, 76), (253, 77), (254, 78), (255, 71), (256, 80), (257, 81), (258, 82), (259, 97), (260, 83), (261, 84), (262, 100), (298, 3), (307, 5), (308, 6), (309, 8), (310, 9), (311, 11), (312, 14), (313, 15), (325, 74), (326, 33), (347, 56), (348, 34), (349, 35), (350, 36), (354, 96), (355, 57), (364, 108)]
noncomputable def E : Env := ⟨Tryz.prog, tbl⟩
instance : Mixed E := ⟨by kernel_rfl⟩
def rangesOf : Code → List (Code × Code)
 | .rangeFunc _ _ a b => [(a, b)]
 | .seq a b | .cond _ a b => rangesOf a ++ rangesOf b
 | .block _ a | .loop a => rangesOf a
 | _ => []
noncomputable def rng (f : FuncId) (i : Nat) : Code × Code := ((match E.P.funcs[f]? with | some fn => rangesOf (fn.body.getD .skip) | none => [])[i]?).getD (.skip, .skip)
instance has15 : Has E 15 (ir15) := ⟨by kernel_rfl⟩
instance has26 : Has E 26 (ir26) := ⟨by kernel_rfl⟩
instance has70 : Has E 70 (ir70) := ⟨by kernel_rfl⟩
instance has73 : Has E 73 (ir73) := ⟨by kernel_rfl⟩
instance has80 : Has E 80 (ir80) := ⟨by kernel_rfl⟩
instance has91 : Has E 91 (ir91) := ⟨by kernel_rfl⟩
instance has103 : Has E 103 (ir103) := ⟨by kernel_rfl⟩
instance has106 : Has E 106 (ir106) := ⟨by kernel_rfl⟩
instance has118 : Has E 118 (ir118) := ⟨by kernel_rfl⟩
instance has119 : Has E 119 (ir119) := ⟨by kernel_rfl⟩
instance has120 : Has E 120 (ir120) := ⟨by kernel_rfl⟩
instance has121 : Has E 121 (ir121) := ⟨by kernel_rfl⟩
instance has122 : Has E 122 (ir122) := ⟨by kernel_rfl⟩
instance has126 : Has E 126 (ir126) := ⟨by kernel_rfl⟩
instance has134 : Has E 134 (ir134) := ⟨by kernel_rfl⟩
instance has135 : Has E 135 (ir135) := ⟨by kernel_rfl⟩
instance has136 : Has E 136 (ir136) := ⟨by kernel_rfl⟩
instance has198 : Has E 198 (ir198) := ⟨by kernel_rfl⟩
instance has201 : Has E 201 (ir201) := ⟨by kernel_rfl⟩
instance has206 : Has E 206 (ir206) := ⟨by kernel_rfl⟩
instance has207 : Has E 207 (ir207) := ⟨by kernel_rfl⟩
instance has208 : Has E 208 (ir208) := ⟨by kernel_rfl⟩
instance has209 : Has E 209 (ir209) := ⟨by kernel_rfl⟩
instance has210 : Has E 210 (ir210) := ⟨by kernel_rfl⟩
instance has211 : Has E 211 (ir211) := ⟨by kernel_rfl⟩
instance has212 : Has E 212 (ir212) := ⟨by kernel_rfl⟩
instance has213 : Has E 213 (ir213) := ⟨by kernel_rfl⟩
instance has214 : Has E 214 (ir214) := ⟨by kernel_rfl⟩
instance has215 : Has E 215 (ir215) := ⟨by kernel_rfl⟩
instance has216 : Has E 216 (ir216) := ⟨by kernel_rfl⟩
instance has217 : Has E 217 (ir217) := ⟨by kernel_rfl⟩
instance has218 : Has E 218 (ir218) := ⟨by kernel_rfl⟩
instance has219 : Has E 219 (ir219) := ⟨by kernel_rfl⟩
instance has220 : Has E 220 (ir220 (rng 23)) := ⟨by kernel_rfl⟩
instance has221 : Has E 221 (ir221) := ⟨by kernel_rfl⟩
instance has222 : Has E 222 (ir222) := ⟨by kernel_rfl⟩
instance has223 : Has E 223 (ir223) := ⟨by kernel_rfl⟩
instance has224 : Has E 224 (ir224) := ⟨by kernel_rfl⟩
instance has225 : Has E 225 (ir225) := ⟨by kernel_rfl⟩
instance has226 : Has E 226 (ir226) := ⟨by kernel_rfl⟩
instance has227 : Has E 227 (ir227) := ⟨by kernel_rfl⟩
instance has228 : Has E 228 (ir228) := ⟨by kernel_rfl⟩
instance has229 : Has E 229 (ir229 (rng 27)) := ⟨by kernel_rfl⟩
instance has230 : Has E 230 (ir230) := ⟨by kernel_rfl⟩
instance has231 : Has E 231 (ir231 (rng 29)) := ⟨by kernel_rfl⟩
instance has232 : Has E 232 (ir232) := ⟨by kernel_rfl⟩
instance has233 : Has E 233 (ir233) := ⟨by kernel_rfl⟩
instance has234 : Has E 234 (ir234) := ⟨by kernel_rfl⟩
instance has235 : Has E 235 (ir235) := ⟨by kernel_rfl⟩
instance has236 : Has E 236 (ir236) := ⟨by kernel_rfl⟩
instance has237 : Has E 237 (ir237) := ⟨by kernel_rfl⟩
instance has238 : Has E 238 (ir238) := ⟨by kernel_rfl⟩
instance has239 : Has E 239 (ir239) := ⟨by kernel_rfl⟩
instance has240 : Has E 240 (ir240) := ⟨by kernel_rfl⟩
instance has241 : Has E 241 (ir241) := ⟨by kernel_rfl⟩
instance has242 : Has E 242 (ir242) := ⟨by kernel_rfl⟩
instance has243 : Has E 243 (ir243) := ⟨by kernel_rfl⟩
instance has244 : Has E 244 (ir244) := ⟨by kernel_rfl⟩
instance has245 : Has E 245 (ir245) := ⟨by kernel_rfl⟩
instance has246 : Has E 246 (ir246) := ⟨by kernel_rfl⟩
instance has247 : Has E 247 (ir247) := ⟨by kernel_rfl⟩
instance has248 : Has E 248 (ir248) := ⟨by kernel_rfl⟩
instance has249 : Has E 249 (ir249) := ⟨by kernel_rfl⟩
instance has250 : Has E 250 (ir250) := ⟨by kernel_rfl⟩
instance has251 : Has E 251 (ir251) := ⟨by kernel_rfl⟩
instance has252 : Has E 252 (ir252) := ⟨by kernel_rfl⟩
instance has253 : Has E 253 (ir253) := ⟨by kernel_rfl⟩
instance has254 : Has E 254 (ir254) := ⟨by kernel_rfl⟩
instance has255 : Has E 255 (ir255) := ⟨by kernel_rfl⟩
instance has256 : Has E 256 (ir256) := ⟨by kernel_rfl⟩
instance has257 : Has E 257 (ir257) := ⟨by kernel_rfl⟩
instance has258 : Has E 258 (ir258) := ⟨by kernel_rfl⟩
instance has259 : Has E 259 (ir259) := ⟨by kernel_rfl⟩
instance has260 : Has E 260 (ir260) := ⟨by kernel_rfl⟩
instance has261 : Has E 261 (ir261) := ⟨by kernel_rfl⟩
instance has262 : Has E 262 (ir262) := ⟨by kernel_rfl⟩
instance has298 : Has E 298 (ir298) := ⟨by kernel_rfl⟩
instance has307 : Has E 307 (ir307) := ⟨by kernel_rfl⟩
instance has308 : Has E 308 (ir308) := ⟨by kernel_rfl⟩
instance has309 : Has E 309 (ir309) := ⟨by kernel_rfl⟩
instance has310 : Has E 310 (ir310) := ⟨by kernel_rfl⟩
instance has311 : Has E 311 (ir311) := ⟨by kernel_rfl⟩
instance has312 : Has E 312 (ir312) := ⟨by kernel_rfl⟩
instance has313 : Has E 313 (ir313) := ⟨by kernel_rfl⟩
instance has325 : Has E 325 (ir325) := ⟨by kernel_rfl⟩
instance has326 : Has E 326 (ir326) := ⟨by kernel_rfl⟩
instance has347 : Has E 347 (ir347) := ⟨by kernel_rfl⟩
instance has348 : Has E 348 (ir348) := ⟨by kernel_rfl⟩
instance has349 : Has E 349 (ir349) := ⟨by kernel_rfl⟩
instance has350 : Has E 350 (ir350) := ⟨by kernel_rfl⟩
instance has354 : Has E 354 (ir354) := ⟨by kernel_rfl⟩
instance has355 : Has E 355 (ir355) := ⟨by kernel_rfl⟩
instance has364 : Has E 364 (ir364) := ⟨by kernel_rfl⟩
theorem ra220_0 : ccode E 92 ir220a0 (rng 23 0).1 = some ir220a0 := by kernel_rfl
theorem rb220_0 : ccode E 92 ir220b0 (rng 23 0).2 = some ir220b0 := by kernel_rfl
theorem ra229_0 : ccode E 117 ir229a0 (rng 27 0).1 = some ir229a0 := by kernel_rfl
theorem rb229_0 : ccode E 117 ir229b0 (rng 27 0).2 = some ir229b0 := by kernel_rfl
theorem ra231_0 : ccode E 43 ir231a0 (rng 29 0).1 = some ir231a0 := by kernel_rfl
theorem rb231_0 : ccode E 43 ir231b0 (rng 29 0).2 = some ir231b0 := by kernel_rfl
end Go.Proofs.YtolapannkcdeeaaGreat.AM
