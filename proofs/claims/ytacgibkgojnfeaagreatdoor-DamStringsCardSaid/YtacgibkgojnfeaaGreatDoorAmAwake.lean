/- The examples that each law checks first: run. Conditions: none. -/
import Derived.Test.YtacgibkgojnfeaaGreatDoorAmHas
import Derived.Test.YtacgibkgojnfeaaGreatDoorAmRule
namespace Go.Proofs.YtacgibkgojnfeaaGreatDoor.AM
section
set_option linter.unusedSimpArgs false
set_option linter.unusedVariables false
open Go Go.RowKit

noncomputable def XA : XT := ⟨E, [(10, ir10), (11, ir11), (13, ir13), (20, ir20), (22, ir22), (26, ir26), (33, ir33), (36, ir36), (43, ir43), (55, ir55), (60, ir60), (61, ir61), (62, ir62), (63, ir63), (64, ir64), (65, ir65), (67, ir67), (68, ir68), (69, ir69), (70, ir70), (71, ir71), (72, ir72), (73, ir73), (74, ir74), (77, ir77), (78, ir78), (79, ir79), (80, ir80), (81, ir81), (82, ir82), (83, ir83), (85, ir85), (86, ir86), (87, ir87), (88, ir88), (89, ir89), (93, ir93), (94, ir94), (95, ir95), (96, ir96 (rng 45)), (97, ir97), (98, ir98), (100, ir100), (103, ir103), (104, ir104), (105, ir105), (106, ir106), (107, ir107), (108, ir108), (110, ir110), (111, ir111), (112, ir112), (114, ir114), (115, ir115), (116, ir116), (118, ir118), (119, ir119), (120, ir120), (121, ir121), (122, ir122), (123, ir123), (124, ir124), (125, ir125), (126, ir126), (127, ir127), (128, ir128), (129, ir129), (130, ir130), (131, ir131), (132, ir132), (133, ir133), (134, ir134), (135, ir135), (136, ir136), (137, ir137), (138, ir138), (139, ir139), (140, ir140), (141, ir141), (142, ir142), (143, ir143), (144, ir144), (145, ir145), (146, ir146), (147, ir147)], [(ir96a0, ir96b0)]⟩
theorem XA_ok : XA.OK := XT.ok_of [⟨10, _, has10⟩, ⟨11, _, has11⟩, ⟨13, _, has13⟩, ⟨20, _, has20⟩, ⟨22, _, has22⟩, ⟨26, _, has26⟩, ⟨33, _, has33⟩, ⟨36, _, has36⟩, ⟨43, _, has43⟩, ⟨55, _, has55⟩, ⟨60, _, has60⟩, ⟨61, _, has61⟩, ⟨62, _, has62⟩, ⟨63, _, has63⟩, ⟨64, _, has64⟩, ⟨65, _, has65⟩, ⟨67, _, has67⟩, ⟨68, _, has68⟩, ⟨69, _, has69⟩, ⟨70, _, has70⟩, ⟨71, _, has71⟩, ⟨72, _, has72⟩, ⟨73, _, has73⟩, ⟨74, _, has74⟩, ⟨77, _, has77⟩, ⟨78, _, has78⟩, ⟨79, _, has79⟩, ⟨80, _, has80⟩, ⟨81, _, has81⟩, ⟨82, _, has82⟩, ⟨83, _, has83⟩, ⟨85, _, has85⟩, ⟨86, _, has86⟩, ⟨87, _, has87⟩, ⟨88, _, has88⟩, ⟨89, _, has89⟩, ⟨93, _, has93⟩, ⟨94, _, has94⟩, ⟨95, _, has95⟩, ⟨96, _, has96⟩, ⟨97, _, has97⟩, ⟨98, _, has98⟩, ⟨100, _, has100⟩, ⟨103, _, has103⟩, ⟨104, _, has104⟩, ⟨105, _, has105⟩, ⟨106, _, has106⟩, ⟨107, _, has107⟩, ⟨108, _, has108⟩, ⟨110, _, has110⟩, ⟨111, _, has111⟩, ⟨112, _, has112⟩, ⟨114, _, has114⟩, ⟨115, _, has115⟩, ⟨116, _, has116⟩, ⟨118, _, has118⟩, ⟨119, _, has119⟩, ⟨120, _, has120⟩, ⟨121, _, has121⟩, ⟨122, _, has122⟩, ⟨123, _, has123⟩, ⟨124, _, has124⟩, ⟨125, _, has125⟩, ⟨126, _, has126⟩, ⟨127, _, has127⟩, ⟨128, _, has128⟩, ⟨129, _, has129⟩, ⟨130, _, has130⟩, ⟨131, _, has131⟩, ⟨132, _, has132⟩, ⟨133, _, has133⟩, ⟨134, _, has134⟩, ⟨135, _, has135⟩, ⟨136, _, has136⟩, ⟨137, _, has137⟩, ⟨138, _, has138⟩, ⟨139, _, has139⟩, ⟨140, _, has140⟩, ⟨141, _, has141⟩, ⟨142, _, has142⟩, ⟨143, _, has143⟩, ⟨144, _, has144⟩, ⟨145, _, has145⟩, ⟨146, _, has146⟩, ⟨147, _, has147⟩] rfl
instance : Mixed XA.E := inferInstanceAs (Mixed E)
end
section
set_option linter.unusedSimpArgs false
set_option linter.unusedVariables false
open Go Go.RowKit
theorem awake_run : xcall XA (xcode XA 400) (.func (.func (XA.E.id 10)) #[] #[]) [] ⟨0, [], true⟩ (fun v _ => veq v (.bool true)) = true := by kernel_rfl
theorem awake : ICalls E 10 [] AHeap.none fun v _ => v = .bool true := ICalls.run (X := XA) XA_ok awake_run
end
end Go.Proofs.YtacgibkgojnfeaaGreatDoor.AM
