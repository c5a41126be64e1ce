/- The functions of the small language are the program's. Conditions: none. -/
import Derived.Test.YtmbekcealcjabaaAmFns
import Derived.Test.YtmbekcealcjabaaAmFns1
import Derived.Test.YtmbekcealcjabaaProg
import Derived.KernelRfl
namespace Go.Proofs.Ytmbekcealcjabaa.AM
set_option linter.unusedSimpArgs false
set_option linter.unusedVariables false
open Go Go.RowKit

def tbl : List (Nat × FuncId) := [(2, 2), (15, 16), (26, 12), (38, 8), (70, 62), (73, 40), (80, 48), (103, 63), (106, 58), (109, 15), (118, 73), (119, 74), (120, 71), (121, 101), (122, 89), (126, 83), (127, 84), (128, 85), (129, 86), (130, 87), (131, 88), (132, 90), (133, 91), (134, 92), (135, 93), (136, 79), (137, 80), (139, 96), (140, 97), (141, 98), (142, 99), (143, 100), (144, 95), (146, 103), (147, 102), (196, 3), (197, 4), (198, 5), (199, 6), (200, 7), (201, 9), (202, 10), (203, 11), (204, 13), (205, 14), (206, 17), (207, 18), (208, 19), (209, 20), (210, 21), (211, 22), (212, 23), (213, 24), (214, 25), (215, 26), (216, 27), (217, 28), (218, 29), (219, 30), (220, 31), (221, 32), (222, 33), (223, 34), (224, 35), (225, 36), (226, 37), (227, 38), (228, 39), (229, 41), (230, 42), (231, 43), (232, 44), (233, 45), (234, 46), (235, 47), (236, 49), (237, 50), (238, 51), (239, 52), (240, 53), (241, 54), (242, 55), (243, 56), (244, 57), (245, 59), (246, 60), (247, 61), (248, 64), (249, 65), (250, 66), (251, 67), (252, 68), (253, 69), (254, 70), (255, 72), (256, 75), (257, 76), (258, 77), (259, 78), (260, 81), (261, 82), (262, 94)]
noncomputable def E : Env := ⟨Try.prog, tbl⟩
instance : Mixed E := ⟨by kernel_rfl⟩

def rangesOf : Code → List (Code × Code)
  | .rangeFunc _ _ a b => [(a, b)]
  | .seq a b | .cond _ a b => rangesOf a ++ rangesOf b
  | .block _ a | .loop a => rangesOf a
  | _ => []
noncomputable def rng (f : FuncId) (i : Nat) : Code × Code := ((match E.P.funcs[f]? with | some fn => rangesOf (fn.body.getD .skip) | none => [])[i]?).getD (.skip, .skip)
instance has15 : Has E 15 (ir15) := ⟨by kernel_rfl⟩
instance has26 : Has E 26 (ir26) := ⟨by kernel_rfl⟩
instance has38 : Has E 38 (ir38) := ⟨by kernel_rfl⟩
instance has70 : Has E 70 (ir70) := ⟨by kernel_rfl⟩
instance has73 : Has E 73 (ir73) := ⟨by kernel_rfl⟩
instance has80 : Has E 80 (ir80) := ⟨by kernel_rfl⟩
instance has103 : Has E 103 (ir103) := ⟨by kernel_rfl⟩
instance has106 : Has E 106 (ir106) := ⟨by kernel_rfl⟩
instance has109 : Has E 109 (ir109) := ⟨by kernel_rfl⟩
instance has118 : Has E 118 (ir118) := ⟨by kernel_rfl⟩
instance has119 : Has E 119 (ir119) := ⟨by kernel_rfl⟩
instance has120 : Has E 120 (ir120) := ⟨by kernel_rfl⟩
instance has121 : Has E 121 (ir121) := ⟨by kernel_rfl⟩
instance has122 : Has E 122 (ir122) := ⟨by kernel_rfl⟩
instance has126 : Has E 126 (ir126) := ⟨by kernel_rfl⟩
instance has127 : Has E 127 (ir127) := ⟨by kernel_rfl⟩
instance has128 : Has E 128 (ir128) := ⟨by kernel_rfl⟩
instance has129 : Has E 129 (ir129) := ⟨by kernel_rfl⟩
instance has130 : Has E 130 (ir130) := ⟨by kernel_rfl⟩
instance has131 : Has E 131 (ir131) := ⟨by kernel_rfl⟩
instance has132 : Has E 132 (ir132) := ⟨by kernel_rfl⟩
instance has133 : Has E 133 (ir133) := ⟨by kernel_rfl⟩
instance has134 : Has E 134 (ir134) := ⟨by kernel_rfl⟩
instance has135 : Has E 135 (ir135) := ⟨by kernel_rfl⟩
instance has136 : Has E 136 (ir136) := ⟨by kernel_rfl⟩
instance has137 : Has E 137 (ir137) := ⟨by kernel_rfl⟩
instance has139 : Has E 139 (ir139) := ⟨by kernel_rfl⟩
instance has140 : Has E 140 (ir140) := ⟨by kernel_rfl⟩
instance has141 : Has E 141 (ir141) := ⟨by kernel_rfl⟩
instance has142 : Has E 142 (ir142) := ⟨by kernel_rfl⟩
instance has143 : Has E 143 (ir143) := ⟨by kernel_rfl⟩
instance has144 : Has E 144 (ir144) := ⟨by kernel_rfl⟩
instance has146 : Has E 146 (ir146) := ⟨by kernel_rfl⟩
instance has147 : Has E 147 (ir147) := ⟨by kernel_rfl⟩
instance has196 : Has E 196 (ir196) := ⟨by kernel_rfl⟩
instance has197 : Has E 197 (ir197) := ⟨by kernel_rfl⟩
instance has198 : Has E 198 (ir198) := ⟨by kernel_rfl⟩
instance has199 : Has E 199 (ir199) := ⟨by kernel_rfl⟩
instance has200 : Has E 200 (ir200) := ⟨by kernel_rfl⟩
instance has201 : Has E 201 (ir201) := ⟨by kernel_rfl⟩
instance has202 : Has E 202 (ir202) := ⟨by kernel_rfl⟩
instance has203 : Has E 203 (ir203) := ⟨by kernel_rfl⟩
instance has204 : Has E 204 (ir204) := ⟨by kernel_rfl⟩
instance has205 : Has E 205 (ir205) := ⟨by kernel_rfl⟩
instance has206 : Has E 206 (ir206) := ⟨by kernel_rfl⟩
instance has207 : Has E 207 (ir207) := ⟨by kernel_rfl⟩
instance has208 : Has E 208 (ir208) := ⟨by kernel_rfl⟩
instance has209 : Has E 209 (ir209) := ⟨by kernel_rfl⟩
instance has210 : Has E 210 (ir210) := ⟨by kernel_rfl⟩
instance has211 : Has E 211 (ir211) := ⟨by kernel_rfl⟩
instance has212 : Has E 212 (ir212) := ⟨by kernel_rfl⟩
instance has213 : Has E 213 (ir213) := ⟨by kernel_rfl⟩
instance has214 : Has E 214 (ir214) := ⟨by kernel_rfl⟩
instance has215 : Has E 215 (ir215) := ⟨by kernel_rfl⟩
instance has216 : Has E 216 (ir216) := ⟨by kernel_rfl⟩
instance has217 : Has E 217 (ir217) := ⟨by kernel_rfl⟩
instance has218 : Has E 218 (ir218) := ⟨by kernel_rfl⟩
instance has219 : Has E 219 (ir219) := ⟨by kernel_rfl⟩
instance has220 : Has E 220 (ir220 (rng 31)) := ⟨by kernel_rfl⟩
instance has221 : Has E 221 (ir221) := ⟨by kernel_rfl⟩
instance has222 : Has E 222 (ir222) := ⟨by kernel_rfl⟩
instance has223 : Has E 223 (ir223) := ⟨by kernel_rfl⟩
instance has224 : Has E 224 (ir224) := ⟨by kernel_rfl⟩
instance has225 : Has E 225 (ir225) := ⟨by kernel_rfl⟩
instance has226 : Has E 226 (ir226) := ⟨by kernel_rfl⟩
instance has227 : Has E 227 (ir227) := ⟨by kernel_rfl⟩
instance has228 : Has E 228 (ir228) := ⟨by kernel_rfl⟩
instance has229 : Has E 229 (ir229 (rng 41)) := ⟨by kernel_rfl⟩
instance has230 : Has E 230 (ir230) := ⟨by kernel_rfl⟩
instance has231 : Has E 231 (ir231 (rng 43)) := ⟨by kernel_rfl⟩
instance has232 : Has E 232 (ir232) := ⟨by kernel_rfl⟩
instance has233 : Has E 233 (ir233) := ⟨by kernel_rfl⟩
instance has234 : Has E 234 (ir234) := ⟨by kernel_rfl⟩
instance has235 : Has E 235 (ir235) := ⟨by kernel_rfl⟩
instance has236 : Has E 236 (ir236) := ⟨by kernel_rfl⟩
instance has237 : Has E 237 (ir237) := ⟨by kernel_rfl⟩
instance has238 : Has E 238 (ir238) := ⟨by kernel_rfl⟩
instance has239 : Has E 239 (ir239) := ⟨by kernel_rfl⟩
instance has240 : Has E 240 (ir240) := ⟨by kernel_rfl⟩
instance has241 : Has E 241 (ir241) := ⟨by kernel_rfl⟩
instance has242 : Has E 242 (ir242) := ⟨by kernel_rfl⟩
instance has243 : Has E 243 (ir243) := ⟨by kernel_rfl⟩
instance has244 : Has E 244 (ir244) := ⟨by kernel_rfl⟩
instance has245 : Has E 245 (ir245) := ⟨by kernel_rfl⟩
instance has246 : Has E 246 (ir246) := ⟨by kernel_rfl⟩
instance has247 : Has E 247 (ir247) := ⟨by kernel_rfl⟩
instance has248 : Has E 248 (ir248) := ⟨by kernel_rfl⟩
instance has249 : Has E 249 (ir249) := ⟨by kernel_rfl⟩
instance has250 : Has E 250 (ir250) := ⟨by kernel_rfl⟩
instance has251 : Has E 251 (ir251) := ⟨by kernel_rfl⟩
instance has252 : Has E 252 (ir252) := ⟨by kernel_rfl⟩
instance has253 : Has E 253 (ir253) := ⟨by kernel_rfl⟩
instance has254 : Has E 254 (ir254) := ⟨by kernel_rfl⟩
instance has255 : Has E 255 (ir255) := ⟨by kernel_rfl⟩
instance has256 : Has E 256 (ir256) := ⟨by kernel_rfl⟩
instance has257 : Has E 257 (ir257) := ⟨by kernel_rfl⟩
instance has258 : Has E 258 (ir258) := ⟨by kernel_rfl⟩
instance has259 : Has E 259 (ir259) := ⟨by kernel_rfl⟩
instance has260 : Has E 260 (ir260) := ⟨by kernel_rfl⟩
instance has261 : Has E 261 (ir261) := ⟨by kernel_rfl⟩
instance has262 : Has E 262 (ir262) := ⟨by kernel_rfl⟩
theorem ra220_0 : ccode E 92 ir220a0 (rng 31 0).1 = some ir220a0 := by kernel_rfl
theorem rb220_0 : ccode E 92 ir220b0 (rng 31 0).2 = some ir220b0 := by kernel_rfl
theorem ra229_0 : ccode E 117 ir229a0 (rng 41 0).1 = some ir229a0 := by kernel_rfl
theorem rb229_0 : ccode E 117 ir229b0 (rng 41 0).2 = some ir229b0 := by kernel_rfl
theorem ra231_0 : ccode E 43 ir231a0 (rng 43 0).1 = some ir231a0 := by kernel_rfl
theorem rb231_0 : ccode E 43 ir231b0 (rng 43 0).2 = some ir231b0 := by kernel_rfl
end Go.Proofs.Ytmbekcealcjabaa.AM
