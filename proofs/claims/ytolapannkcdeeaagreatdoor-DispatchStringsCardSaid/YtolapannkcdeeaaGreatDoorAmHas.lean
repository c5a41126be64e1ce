/- The functions of the small language are the program's. Conditions: none. -/
import Derived.Test.YtolapannkcdeeaaGreatDoorAmFns
import Derived.Test.YtolapannkcdeeaaGreatDoorAmFns1
import Derived.Test.YtolapannkcdeeaaGreatDoorProg
import Derived.KernelRfl
namespace Go.Proofs.YtolapannkcdeeaaGreatDoor.AM
set_option linter.unusedSimpArgs false
set_option linter.unusedVariables false
open Go Go.RowKit
def tbl : List (Nat × FuncId) := [(15, 26), (26, 29), (70, 105), (73, 75), (80, 59), (91, 127), (103, 115), (106, 113), (118, 136), (119, 137), (120, 135), (121, 185), (122, 162), (126, 156), (127, 157), (128, 158), (129, 159), (130, 160), (131, 161), (132, 163), (133, 164), (134, 165), (135, 166), (136, 154), (137, 155), (139, 180), (140, 181), (141, 182), (142, 183), (143, 184), (144, 179), (146, 195), (147, 194), (198, 5), (201, 36), (206, 23), (207, 33), (208, 34), (209, 35), (210, 37), (211, 38), (212, 39), (213, 63), (214, 52), (215, 111), (216, 76), (217, 68), (218, 69), (219, 50), (220, 51), (221, 53), (222, 66), (223, 67), (224, 70), (225, 71), (226, 72), (227, 73), (228, 74), (229, 55), (230, 77), (231, 78), (232, 79), (233, 80), (234, 56), (235, 62), (236, 110), (237, 96), (238, 97), (239, 98), (240, 99), (241, 100), (242, 108), (243, 109), (244, 112), (245, 114), (246, 102), (247, 103), (248, 116), (249, 44), (250, 129), (251, 130), (252, 133), (253, 134), (254, 91), (255, 132), (256, 88), (257, 89), (258, 90), (259, 153), (260, 151), (261, 152), (262, 126), (307, 6), (308, 7), (309, 9), (310, 11), (311, 21), (325, 48), (326, 49), (347, 20), (354, 94), (355, 95), (364, 128), (382, 42), (384, 41), (385, 81), (386, 45), (387, 92), (388, 47), (394, 86), (395, 87), (458, 3), (460, 8), (461, 10), (462, 12), (463, 13), (464, 14), (465, 15), (466, 16), (467, 17), (468, 18), (469, 19), (471, 40), (472, 43), (473, 46)]
noncomputable def E : Env := ⟨Tryz.prog, tbl⟩
instance : Mixed E := ⟨by kernel_rfl⟩
def rangesOf : Code → List (Code × Code)
 | .rangeFunc _ _ a b => [(a, b)]
 | .seq a b | .cond _ a b => rangesOf a ++ rangesOf b
 | .block _ a | .loop a => rangesOf a
 | _ => []
noncomputable def rng (f : FuncId) (i : Nat) : Code × Code := ((match E.P.funcs[f]? with | some fn => rangesOf (fn.body.getD .skip) | none => [])[i]?).getD (.skip, .skip)
instance has15 : Has E 15 (ir15) := ⟨by kernel_rfl⟩
instance has26 : Has E 26 (ir26) := ⟨by kernel_rfl⟩
instance has70 : Has E 70 (ir70) := ⟨by kernel_rfl⟩
instance has73 : Has E 73 (ir73) := ⟨by kernel_rfl⟩
instance has80 : Has E 80 (ir80) := ⟨by kernel_rfl⟩
instance has91 : Has E 91 (ir91) := ⟨by kernel_rfl⟩
instance has103 : Has E 103 (ir103) := ⟨by kernel_rfl⟩
instance has106 : Has E 106 (ir106) := ⟨by kernel_rfl⟩
instance has118 : Has E 118 (ir118) := ⟨by kernel_rfl⟩
instance has119 : Has E 119 (ir119) := ⟨by kernel_rfl⟩
instance has120 : Has E 120 (ir120) := ⟨by kernel_rfl⟩
instance has121 : Has E 121 (ir121) := ⟨by kernel_rfl⟩
instance has122 : Has E 122 (ir122) := ⟨by kernel_rfl⟩
instance has126 : Has E 126 (ir126) := ⟨by kernel_rfl⟩
instance has134 : Has E 134 (ir134) := ⟨by kernel_rfl⟩
instance has135 : Has E 135 (ir135) := ⟨by kernel_rfl⟩
instance has136 : Has E 136 (ir136) := ⟨by kernel_rfl⟩
instance has198 : Has E 198 (ir198) := ⟨by kernel_rfl⟩
instance has201 : Has E 201 (ir201) := ⟨by kernel_rfl⟩
instance has206 : Has E 206 (ir206) := ⟨by kernel_rfl⟩
instance has207 : Has E 207 (ir207) := ⟨by kernel_rfl⟩
instance has208 : Has E 208 (ir208) := ⟨by kernel_rfl⟩
instance has209 : Has E 209 (ir209) := ⟨by kernel_rfl⟩
instance has210 : Has E 210 (ir210) := ⟨by kernel_rfl⟩
instance has211 : Has E 211 (ir211) := ⟨by kernel_rfl⟩
instance has212 : Has E 212 (ir212) := ⟨by kernel_rfl⟩
instance has213 : Has E 213 (ir213) := ⟨by kernel_rfl⟩
instance has214 : Has E 214 (ir214) := ⟨by kernel_rfl⟩
instance has215 : Has E 215 (ir215) := ⟨by kernel_rfl⟩
instance has216 : Has E 216 (ir216) := ⟨by kernel_rfl⟩
instance has217 : Has E 217 (ir217) := ⟨by kernel_rfl⟩
instance has218 : Has E 218 (ir218) := ⟨by kernel_rfl⟩
instance has219 : Has E 219 (ir219) := ⟨by kernel_rfl⟩
instance has220 : Has E 220 (ir220 (rng 51)) := ⟨by kernel_rfl⟩
instance has221 : Has E 221 (ir221) := ⟨by kernel_rfl⟩
instance has222 : Has E 222 (ir222) := ⟨by kernel_rfl⟩
instance has223 : Has E 223 (ir223) := ⟨by kernel_rfl⟩
instance has224 : Has E 224 (ir224) := ⟨by kernel_rfl⟩
instance has225 : Has E 225 (ir225) := ⟨by kernel_rfl⟩
instance has226 : Has E 226 (ir226) := ⟨by kernel_rfl⟩
instance has227 : Has E 227 (ir227) := ⟨by kernel_rfl⟩
instance has228 : Has E 228 (ir228) := ⟨by kernel_rfl⟩
instance has229 : Has E 229 (ir229 (rng 55)) := ⟨by kernel_rfl⟩
instance has230 : Has E 230 (ir230) := ⟨by kernel_rfl⟩
instance has231 : Has E 231 (ir231 (rng 78)) := ⟨by kernel_rfl⟩
instance has232 : Has E 232 (ir232) := ⟨by kernel_rfl⟩
instance has233 : Has E 233 (ir233) := ⟨by kernel_rfl⟩
instance has234 : Has E 234 (ir234) := ⟨by kernel_rfl⟩
instance has235 : Has E 235 (ir235) := ⟨by kernel_rfl⟩
instance has236 : Has E 236 (ir236) := ⟨by kernel_rfl⟩
instance has237 : Has E 237 (ir237) := ⟨by kernel_rfl⟩
instance has238 : Has E 238 (ir238) := ⟨by kernel_rfl⟩
instance has239 : Has E 239 (ir239) := ⟨by kernel_rfl⟩
instance has240 : Has E 240 (ir240) := ⟨by kernel_rfl⟩
instance has241 : Has E 241 (ir241) := ⟨by kernel_rfl⟩
instance has242 : Has E 242 (ir242) := ⟨by kernel_rfl⟩
instance has243 : Has E 243 (ir243) := ⟨by kernel_rfl⟩
instance has244 : Has E 244 (ir244) := ⟨by kernel_rfl⟩
instance has245 : Has E 245 (ir245) := ⟨by kernel_rfl⟩
instance has246 : Has E 246 (ir246) := ⟨by kernel_rfl⟩
instance has247 : Has E 247 (ir247) := ⟨by kernel_rfl⟩
instance has248 : Has E 248 (ir248) := ⟨by kernel_rfl⟩
instance has249 : Has E 249 (ir249) := ⟨by kernel_rfl⟩
instance has250 : Has E 250 (ir250) := ⟨by kernel_rfl⟩
instance has251 : Has E 251 (ir251) := ⟨by kernel_rfl⟩
instance has252 : Has E 252 (ir252) := ⟨by kernel_rfl⟩
instance has253 : Has E 253 (ir253) := ⟨by kernel_rfl⟩
instance has254 : Has E 254 (ir254) := ⟨by kernel_rfl⟩
instance has255 : Has E 255 (ir255) := ⟨by kernel_rfl⟩
instance has256 : Has E 256 (ir256) := ⟨by kernel_rfl⟩
instance has257 : Has E 257 (ir257) := ⟨by kernel_rfl⟩
instance has258 : Has E 258 (ir258) := ⟨by kernel_rfl⟩
instance has259 : Has E 259 (ir259) := ⟨by kernel_rfl⟩
instance has260 : Has E 260 (ir260) := ⟨by kernel_rfl⟩
instance has261 : Has E 261 (ir261) := ⟨by kernel_rfl⟩
instance has262 : Has E 262 (ir262) := ⟨by kernel_rfl⟩
instance has307 : Has E 307 (ir307) := ⟨by kernel_rfl⟩
instance has308 : Has E 308 (ir308) := ⟨by kernel_rfl⟩
instance has309 : Has E 309 (ir309) := ⟨by kernel_rfl⟩
instance has310 : Has E 310 (ir310) := ⟨by kernel_rfl⟩
instance has311 : Has E 311 (ir311) := ⟨by kernel_rfl⟩
instance has325 : Has E 325 (ir325) := ⟨by kernel_rfl⟩
instance has326 : Has E 326 (ir326) := ⟨by kernel_rfl⟩
instance has347 : Has E 347 (ir347) := ⟨by kernel_rfl⟩
instance has354 : Has E 354 (ir354) := ⟨by kernel_rfl⟩
instance has355 : Has E 355 (ir355) := ⟨by kernel_rfl⟩
instance has364 : Has E 364 (ir364) := ⟨by kernel_rfl⟩
instance has386 : Has E 386 (ir386) := ⟨by kernel_rfl⟩
instance has387 : Has E 387 (ir387) := ⟨by kernel_rfl⟩
instance has458 : Has E 458 (ir458) := ⟨by kernel_rfl⟩
instance has460 : Has E 460 (ir460) := ⟨by kernel_rfl⟩
instance has461 : Has E 461 (ir461) := ⟨by kernel_rfl⟩
instance has462 : Has E 462 (ir462) := ⟨by kernel_rfl⟩
instance has463 : Has E 463 (ir463) := ⟨by kernel_rfl⟩
instance has464 : Has E 464 (ir464) := ⟨by kernel_rfl⟩
instance has465 : Has E 465 (ir465) := ⟨by kernel_rfl⟩
instance has466 : Has E 466 (ir466) := ⟨by kernel_rfl⟩
instance has467 : Has E 467 (ir467) := ⟨by kernel_rfl⟩
instance has468 : Has E 468 (ir468) := ⟨by kernel_rfl⟩
instance has469 : Has E 469 (ir469) := ⟨by kernel_rfl⟩
instance has471 : Has E 471 (ir471) := ⟨by kernel_rfl⟩
instance has472 : Has E 472 (ir472) := ⟨by kernel_rfl⟩
instance has473 : Has E 473 (ir473) := ⟨by kernel_rfl⟩
theorem ra220_0 : ccode E 92 ir220a0 (rng 51 0).1 = some ir220a0 := by kernel_rfl
theorem rb220_0 : ccode E 92 ir220b0 (rng 51 0).2 = some ir220b0 := by kernel_rfl
theorem ra229_0 : ccode E 117 ir229a0 (rng 55 0).1 = some ir229a0 := by kernel_rfl
theorem rb229_0 : ccode E 117 ir229b0 (rng 55 0).2 = some ir229b0 := by kernel_rfl
end Go.Proofs.YtolapannkcdeeaaGreatDoor.AM
