/- The functions of the small language are the program's. Conditions: none. -/
import Derived.Test.YtacgibkgojnfeaaGreatDoorAmFns
import Derived.Test.YtacgibkgojnfeaaGreatDoorProg
import Derived.KernelRfl
namespace Go.Proofs.YtacgibkgojnfeaaGreatDoor.AM
set_option linter.unusedSimpArgs false
set_option linter.unusedVariables false
open Go Go.RowKit

def tbl : List (Nat × FuncId) := [(15, 16), (32, 24), (33, 37), (36, 32), (37, 18), (38, 57), (39, 7), (42, 15), (43, 74), (44, 17), (45, 19), (46, 34), (50, 6), (51, 8), (52, 9), (53, 13), (55, 12), (56, 93), (57, 49), (59, 14), (60, 31), (61, 33), (63, 40), (64, 53), (65, 63), (70, 105), (73, 46), (77, 44), (78, 84), (79, 54), (80, 77), (81, 78), (82, 55), (83, 59), (84, 52), (85, 102), (86, 103), (87, 104), (88, 60), (89, 56), (90, 58), (91, 79), (92, 80), (93, 41), (94, 42), (95, 43), (96, 45), (97, 47), (98, 48), (99, 117), (100, 91), (101, 50), (102, 51), (110, 61), (111, 73), (112, 95), (113, 96), (114, 89), (115, 90), (116, 92), (117, 94), (121, 144), (122, 118), (123, 119), (124, 115), (125, 116), (138, 143), (145, 165), (169, 20), (185, 62), (370, 3), (373, 10), (374, 11), (382, 35), (383, 36), (384, 38), (385, 39)]
noncomputable def E : Env := ⟨Tryz.prog, tbl⟩
instance : Mixed E := ⟨by kernel_rfl⟩

def rangesOf : Code → List (Code × Code)
  | .rangeFunc _ _ a b => [(a, b)]
  | .seq a b | .cond _ a b => rangesOf a ++ rangesOf b
  | .block _ a | .loop a => rangesOf a
  | _ => []
noncomputable def rng (f : FuncId) (i : Nat) : Code × Code := ((match E.P.funcs[f]? with | some fn => rangesOf (fn.body.getD .skip) | none => [])[i]?).getD (.skip, .skip)
instance has15 : Has E 15 (ir15) := ⟨by kernel_rfl⟩
instance has32 : Has E 32 (ir32) := ⟨by kernel_rfl⟩
instance has33 : Has E 33 (ir33) := ⟨by kernel_rfl⟩
instance has36 : Has E 36 (ir36) := ⟨by kernel_rfl⟩
instance has37 : Has E 37 (ir37) := ⟨by kernel_rfl⟩
instance has38 : Has E 38 (ir38) := ⟨by kernel_rfl⟩
instance has39 : Has E 39 (ir39) := ⟨by kernel_rfl⟩
instance has42 : Has E 42 (ir42) := ⟨by kernel_rfl⟩
instance has43 : Has E 43 (ir43) := ⟨by kernel_rfl⟩
instance has44 : Has E 44 (ir44) := ⟨by kernel_rfl⟩
instance has45 : Has E 45 (ir45) := ⟨by kernel_rfl⟩
instance has46 : Has E 46 (ir46) := ⟨by kernel_rfl⟩
instance has50 : Has E 50 (ir50) := ⟨by kernel_rfl⟩
instance has51 : Has E 51 (ir51) := ⟨by kernel_rfl⟩
instance has52 : Has E 52 (ir52) := ⟨by kernel_rfl⟩
instance has53 : Has E 53 (ir53) := ⟨by kernel_rfl⟩
instance has55 : Has E 55 (ir55) := ⟨by kernel_rfl⟩
instance has56 : Has E 56 (ir56) := ⟨by kernel_rfl⟩
instance has57 : Has E 57 (ir57) := ⟨by kernel_rfl⟩
instance has59 : Has E 59 (ir59) := ⟨by kernel_rfl⟩
instance has60 : Has E 60 (ir60) := ⟨by kernel_rfl⟩
instance has61 : Has E 61 (ir61) := ⟨by kernel_rfl⟩
instance has63 : Has E 63 (ir63) := ⟨by kernel_rfl⟩
instance has64 : Has E 64 (ir64) := ⟨by kernel_rfl⟩
instance has65 : Has E 65 (ir65) := ⟨by kernel_rfl⟩
instance has70 : Has E 70 (ir70) := ⟨by kernel_rfl⟩
instance has73 : Has E 73 (ir73) := ⟨by kernel_rfl⟩
instance has77 : Has E 77 (ir77) := ⟨by kernel_rfl⟩
instance has78 : Has E 78 (ir78) := ⟨by kernel_rfl⟩
instance has79 : Has E 79 (ir79) := ⟨by kernel_rfl⟩
instance has80 : Has E 80 (ir80) := ⟨by kernel_rfl⟩
instance has81 : Has E 81 (ir81) := ⟨by kernel_rfl⟩
instance has82 : Has E 82 (ir82) := ⟨by kernel_rfl⟩
instance has83 : Has E 83 (ir83) := ⟨by kernel_rfl⟩
instance has84 : Has E 84 (ir84) := ⟨by kernel_rfl⟩
instance has85 : Has E 85 (ir85) := ⟨by kernel_rfl⟩
instance has86 : Has E 86 (ir86) := ⟨by kernel_rfl⟩
instance has87 : Has E 87 (ir87) := ⟨by kernel_rfl⟩
instance has88 : Has E 88 (ir88) := ⟨by kernel_rfl⟩
instance has89 : Has E 89 (ir89) := ⟨by kernel_rfl⟩
instance has90 : Has E 90 (ir90) := ⟨by kernel_rfl⟩
instance has91 : Has E 91 (ir91) := ⟨by kernel_rfl⟩
instance has92 : Has E 92 (ir92) := ⟨by kernel_rfl⟩
instance has93 : Has E 93 (ir93) := ⟨by kernel_rfl⟩
instance has94 : Has E 94 (ir94) := ⟨by kernel_rfl⟩
instance has95 : Has E 95 (ir95) := ⟨by kernel_rfl⟩
instance has96 : Has E 96 (ir96 (rng 45)) := ⟨by kernel_rfl⟩
instance has97 : Has E 97 (ir97) := ⟨by kernel_rfl⟩
instance has98 : Has E 98 (ir98) := ⟨by kernel_rfl⟩
instance has99 : Has E 99 (ir99) := ⟨by kernel_rfl⟩
instance has100 : Has E 100 (ir100) := ⟨by kernel_rfl⟩
instance has101 : Has E 101 (ir101) := ⟨by kernel_rfl⟩
instance has102 : Has E 102 (ir102) := ⟨by kernel_rfl⟩
instance has110 : Has E 110 (ir110) := ⟨by kernel_rfl⟩
instance has111 : Has E 111 (ir111) := ⟨by kernel_rfl⟩
instance has112 : Has E 112 (ir112) := ⟨by kernel_rfl⟩
instance has113 : Has E 113 (ir113) := ⟨by kernel_rfl⟩
instance has114 : Has E 114 (ir114) := ⟨by kernel_rfl⟩
instance has115 : Has E 115 (ir115) := ⟨by kernel_rfl⟩
instance has116 : Has E 116 (ir116) := ⟨by kernel_rfl⟩
instance has117 : Has E 117 (ir117) := ⟨by kernel_rfl⟩
instance has121 : Has E 121 (ir121) := ⟨by kernel_rfl⟩
instance has122 : Has E 122 (ir122) := ⟨by kernel_rfl⟩
instance has123 : Has E 123 (ir123) := ⟨by kernel_rfl⟩
instance has124 : Has E 124 (ir124) := ⟨by kernel_rfl⟩
instance has125 : Has E 125 (ir125) := ⟨by kernel_rfl⟩
instance has138 : Has E 138 (ir138) := ⟨by kernel_rfl⟩
instance has145 : Has E 145 (ir145) := ⟨by kernel_rfl⟩
instance has169 : Has E 169 (ir169) := ⟨by kernel_rfl⟩
instance has185 : Has E 185 (ir185) := ⟨by kernel_rfl⟩
instance has370 : Has E 370 (ir370) := ⟨by kernel_rfl⟩
instance has373 : Has E 373 (ir373) := ⟨by kernel_rfl⟩
instance has374 : Has E 374 (ir374) := ⟨by kernel_rfl⟩
theorem ra96_0 : ccode E 36 ir96a0 (rng 45 0).1 = some ir96a0 := by kernel_rfl
theorem rb96_0 : ccode E 36 ir96b0 (rng 45 0).2 = some ir96b0 := by kernel_rfl
end Go.Proofs.YtacgibkgojnfeaaGreatDoor.AM
