/- The examples that each law checks first: run. Conditions: none. -/
import Derived.Test.YtacgibkgojnfeaaGreatDoorAmHas
import Derived.Test.YtacgibkgojnfeaaGreatDoorAmRule
namespace Go.Proofs.YtacgibkgojnfeaaGreatDoor.AM
section
set_option linter.unusedSimpArgs false
set_option linter.unusedVariables false
open Go Go.RowKit

noncomputable def XA : XT := ⟨E, [(33, ir33), (36, ir36), (43, ir43), (50, ir50), (55, ir55), (60, ir60), (61, ir61), (63, ir63), (64, ir64), (65, ir65), (70, ir70), (73, ir73), (77, ir77), (78, ir78), (79, ir79), (80, ir80), (81, ir81), (82, ir82), (83, ir83), (85, ir85), (86, ir86), (87, ir87), (88, ir88), (89, ir89), (93, ir93), (94, ir94), (95, ir95), (96, ir96 (rng 45)), (97, ir97), (98, ir98), (100, ir100), (110, ir110), (111, ir111), (112, ir112), (114, ir114), (115, ir115), (116, ir116), (121, ir121), (122, ir122), (123, ir123), (124, ir124), (125, ir125), (138, ir138), (145, ir145)], [(ir96a0, ir96b0)]⟩
theorem XA_ok : XA.OK := XT.ok_of [⟨33, _, has33⟩, ⟨36, _, has36⟩, ⟨43, _, has43⟩, ⟨50, _, has50⟩, ⟨55, _, has55⟩, ⟨60, _, has60⟩, ⟨61, _, has61⟩, ⟨63, _, has63⟩, ⟨64, _, has64⟩, ⟨65, _, has65⟩, ⟨70, _, has70⟩, ⟨73, _, has73⟩, ⟨77, _, has77⟩, ⟨78, _, has78⟩, ⟨79, _, has79⟩, ⟨80, _, has80⟩, ⟨81, _, has81⟩, ⟨82, _, has82⟩, ⟨83, _, has83⟩, ⟨85, _, has85⟩, ⟨86, _, has86⟩, ⟨87, _, has87⟩, ⟨88, _, has88⟩, ⟨89, _, has89⟩, ⟨93, _, has93⟩, ⟨94, _, has94⟩, ⟨95, _, has95⟩, ⟨96, _, has96⟩, ⟨97, _, has97⟩, ⟨98, _, has98⟩, ⟨100, _, has100⟩, ⟨110, _, has110⟩, ⟨111, _, has111⟩, ⟨112, _, has112⟩, ⟨114, _, has114⟩, ⟨115, _, has115⟩, ⟨116, _, has116⟩, ⟨121, _, has121⟩, ⟨122, _, has122⟩, ⟨123, _, has123⟩, ⟨124, _, has124⟩, ⟨125, _, has125⟩, ⟨138, _, has138⟩, ⟨145, _, has145⟩] rfl
instance : Mixed XA.E := inferInstanceAs (Mixed E)
end
section
set_option linter.unusedSimpArgs false
set_option linter.unusedVariables false
open Go Go.RowKit
theorem awake_run : xcall XA (xcode XA 400) (.func (.func (XA.E.id 50)) #[] #[]) [] ⟨0, [], true⟩ (fun v _ => veq v (.bool true)) = true := by kernel_rfl
theorem awake : ICalls E 50 [] AHeap.none fun v _ => v = .bool true := ICalls.run (X := XA) XA_ok awake_run
end
end Go.Proofs.YtacgibkgojnfeaaGreatDoor.AM
