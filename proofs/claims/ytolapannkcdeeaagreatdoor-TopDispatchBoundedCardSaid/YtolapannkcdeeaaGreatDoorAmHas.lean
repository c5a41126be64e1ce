/- The functions of the small language are the program's. Conditions: none. -/
import Derived.Test.YtolapannkcdeeaaGreatDoorAmFns
import Derived.Test.YtolapannkcdeeaaGreatDoorProg
import Derived.KernelRfl
namespace Go.Proofs.YtolapannkcdeeaaGreatDoor.AM
set_option linter.unusedSimpArgs false
set_option linter.unusedVariables false
open Go Go.RowKit
def tbl : List (Nat × FuncId) := [(15, 26), (26, 29), (38, 25), (70, 105), (80, 59), (91, 127), (201, 36), (206, 23), (207, 33), (208, 34), (213, 63), (214, 52), (215, 111), (216, 76), (217, 68), (218, 69), (219, 50), (220, 51), (221, 53), (222, 66), (223, 67), (229, 55), (233, 80), (234, 56), (235, 62), (236, 110), (237, 96), (238, 97), (239, 98), (240, 99), (241, 100), (242, 108), (243, 109), (246, 102), (247, 103), (249, 44), (250, 129), (251, 130), (254, 91), (255, 132), (256, 88), (257, 89), (258, 90), (260, 151), (261, 152), (262, 126), (307, 6), (308, 7), (309, 9), (310, 11), (311, 21), (322, 24), (323, 28), (325, 48), (326, 49), (327, 32), (328, 107), (331, 31), (345, 30), (346, 27), (347, 20), (352, 54), (353, 101), (354, 94), (355, 95), (356, 65), (357, 57), (358, 58), (359, 60), (360, 61), (361, 64), (364, 128), (367, 131), (368, 104), (369, 106), (382, 42), (384, 41), (385, 81), (394, 86), (395, 87), (459, 4), (460, 8), (461, 10), (462, 12), (463, 13), (468, 18), (469, 19), (470, 22), (471, 40), (472, 43)]
noncomputable def E : Env := ⟨Tryz.prog, tbl⟩
instance : Mixed E := ⟨by kernel_rfl⟩
def rangesOf : Code → List (Code × Code)
 | .rangeFunc _ _ a b => [(a, b)]
 | .seq a b | .cond _ a b => rangesOf a ++ rangesOf b
 | .block _ a | .loop a => rangesOf a
 | _ => []
noncomputable def rng (f : FuncId) (i : Nat) : Code × Code := ((match E.P.funcs[f]? with | some fn => rangesOf (fn.body.getD .skip) | none => [])[i]?).getD (.skip, .skip)
instance has15 : Has E 15 (ir15) := ⟨by kernel_rfl⟩
instance has26 : Has E 26 (ir26) := ⟨by kernel_rfl⟩
instance has38 : Has E 38 (ir38) := ⟨by kernel_rfl⟩
instance has70 : Has E 70 (ir70) := ⟨by kernel_rfl⟩
instance has80 : Has E 80 (ir80) := ⟨by kernel_rfl⟩
instance has91 : Has E 91 (ir91) := ⟨by kernel_rfl⟩
instance has201 : Has E 201 (ir201) := ⟨by kernel_rfl⟩
instance has206 : Has E 206 (ir206) := ⟨by kernel_rfl⟩
instance has207 : Has E 207 (ir207) := ⟨by kernel_rfl⟩
instance has208 : Has E 208 (ir208) := ⟨by kernel_rfl⟩
instance has213 : Has E 213 (ir213) := ⟨by kernel_rfl⟩
instance has214 : Has E 214 (ir214) := ⟨by kernel_rfl⟩
instance has215 : Has E 215 (ir215) := ⟨by kernel_rfl⟩
instance has216 : Has E 216 (ir216) := ⟨by kernel_rfl⟩
instance has217 : Has E 217 (ir217) := ⟨by kernel_rfl⟩
instance has218 : Has E 218 (ir218) := ⟨by kernel_rfl⟩
instance has219 : Has E 219 (ir219) := ⟨by kernel_rfl⟩
instance has220 : Has E 220 (ir220 (rng 51)) := ⟨by kernel_rfl⟩
instance has221 : Has E 221 (ir221) := ⟨by kernel_rfl⟩
instance has222 : Has E 222 (ir222) := ⟨by kernel_rfl⟩
instance has223 : Has E 223 (ir223) := ⟨by kernel_rfl⟩
instance has229 : Has E 229 (ir229 (rng 55)) := ⟨by kernel_rfl⟩
instance has233 : Has E 233 (ir233) := ⟨by kernel_rfl⟩
instance has234 : Has E 234 (ir234) := ⟨by kernel_rfl⟩
instance has235 : Has E 235 (ir235) := ⟨by kernel_rfl⟩
instance has236 : Has E 236 (ir236) := ⟨by kernel_rfl⟩
instance has237 : Has E 237 (ir237) := ⟨by kernel_rfl⟩
instance has238 : Has E 238 (ir238) := ⟨by kernel_rfl⟩
instance has239 : Has E 239 (ir239) := ⟨by kernel_rfl⟩
instance has240 : Has E 240 (ir240) := ⟨by kernel_rfl⟩
instance has241 : Has E 241 (ir241) := ⟨by kernel_rfl⟩
instance has242 : Has E 242 (ir242) := ⟨by kernel_rfl⟩
instance has243 : Has E 243 (ir243) := ⟨by kernel_rfl⟩
instance has246 : Has E 246 (ir246) := ⟨by kernel_rfl⟩
instance has247 : Has E 247 (ir247) := ⟨by kernel_rfl⟩
instance has249 : Has E 249 (ir249) := ⟨by kernel_rfl⟩
instance has250 : Has E 250 (ir250) := ⟨by kernel_rfl⟩
instance has251 : Has E 251 (ir251) := ⟨by kernel_rfl⟩
instance has254 : Has E 254 (ir254) := ⟨by kernel_rfl⟩
instance has255 : Has E 255 (ir255) := ⟨by kernel_rfl⟩
instance has256 : Has E 256 (ir256) := ⟨by kernel_rfl⟩
instance has257 : Has E 257 (ir257) := ⟨by kernel_rfl⟩
instance has258 : Has E 258 (ir258) := ⟨by kernel_rfl⟩
instance has260 : Has E 260 (ir260) := ⟨by kernel_rfl⟩
instance has261 : Has E 261 (ir261) := ⟨by kernel_rfl⟩
instance has262 : Has E 262 (ir262) := ⟨by kernel_rfl⟩
instance has307 : Has E 307 (ir307) := ⟨by kernel_rfl⟩
instance has308 : Has E 308 (ir308) := ⟨by kernel_rfl⟩
instance has309 : Has E 309 (ir309) := ⟨by kernel_rfl⟩
instance has310 : Has E 310 (ir310) := ⟨by kernel_rfl⟩
instance has311 : Has E 311 (ir311) := ⟨by kernel_rfl⟩
instance has322 : Has E 322 (ir322) := ⟨by kernel_rfl⟩
instance has323 : Has E 323 (ir323) := ⟨by kernel_rfl⟩
instance has325 : Has E 325 (ir325) := ⟨by kernel_rfl⟩
instance has326 : Has E 326 (ir326) := ⟨by kernel_rfl⟩
instance has327 : Has E 327 (ir327) := ⟨by kernel_rfl⟩
instance has328 : Has E 328 (ir328) := ⟨by kernel_rfl⟩
instance has331 : Has E 331 (ir331) := ⟨by kernel_rfl⟩
instance has345 : Has E 345 (ir345) := ⟨by kernel_rfl⟩
instance has346 : Has E 346 (ir346) := ⟨by kernel_rfl⟩
instance has347 : Has E 347 (ir347) := ⟨by kernel_rfl⟩
instance has352 : Has E 352 (ir352 (rng 54)) := ⟨by kernel_rfl⟩
instance has353 : Has E 353 (ir353) := ⟨by kernel_rfl⟩
instance has354 : Has E 354 (ir354) := ⟨by kernel_rfl⟩
instance has355 : Has E 355 (ir355) := ⟨by kernel_rfl⟩
instance has356 : Has E 356 (ir356) := ⟨by kernel_rfl⟩
instance has357 : Has E 357 (ir357) := ⟨by kernel_rfl⟩
instance has358 : Has E 358 (ir358) := ⟨by kernel_rfl⟩
instance has359 : Has E 359 (ir359) := ⟨by kernel_rfl⟩
instance has360 : Has E 360 (ir360) := ⟨by kernel_rfl⟩
instance has361 : Has E 361 (ir361 (rng 64)) := ⟨by kernel_rfl⟩
instance has364 : Has E 364 (ir364) := ⟨by kernel_rfl⟩
instance has367 : Has E 367 (ir367) := ⟨by kernel_rfl⟩
instance has368 : Has E 368 (ir368) := ⟨by kernel_rfl⟩
instance has369 : Has E 369 (ir369) := ⟨by kernel_rfl⟩
instance has459 : Has E 459 (ir459) := ⟨by kernel_rfl⟩
instance has460 : Has E 460 (ir460) := ⟨by kernel_rfl⟩
instance has461 : Has E 461 (ir461) := ⟨by kernel_rfl⟩
instance has462 : Has E 462 (ir462) := ⟨by kernel_rfl⟩
instance has463 : Has E 463 (ir463) := ⟨by kernel_rfl⟩
instance has468 : Has E 468 (ir468) := ⟨by kernel_rfl⟩
instance has469 : Has E 469 (ir469) := ⟨by kernel_rfl⟩
instance has470 : Has E 470 (ir470) := ⟨by kernel_rfl⟩
instance has471 : Has E 471 (ir471) := ⟨by kernel_rfl⟩
instance has472 : Has E 472 (ir472) := ⟨by kernel_rfl⟩
theorem ra220_0 : ccode E 92 ir220a0 (rng 51 0).1 = some ir220a0 := by kernel_rfl
theorem rb220_0 : ccode E 92 ir220b0 (rng 51 0).2 = some ir220b0 := by kernel_rfl
theorem ra229_0 : ccode E 117 ir229a0 (rng 55 0).1 = some ir229a0 := by kernel_rfl
theorem rb229_0 : ccode E 117 ir229b0 (rng 55 0).2 = some ir229b0 := by kernel_rfl
theorem ra352_0 : ccode E 35 ir352a0 (rng 54 0).1 = some ir352a0 := by kernel_rfl
theorem rb352_0 : ccode E 35 ir352b0 (rng 54 0).2 = some ir352b0 := by kernel_rfl
theorem ra361_0 : ccode E 53 ir361a0 (rng 64 0).1 = some ir361a0 := by kernel_rfl
theorem rb361_0 : ccode E 53 ir361b0 (rng 64 0).2 = some ir361b0 := by kernel_rfl
end Go.Proofs.YtolapannkcdeeaaGreatDoor.AM
