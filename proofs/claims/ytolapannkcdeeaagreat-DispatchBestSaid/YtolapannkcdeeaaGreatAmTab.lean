/- The functions of closed runs. Conditions: none. -/
import Derived.Test.YtolapannkcdeeaaGreatAmHas
import Derived.Test.YtolapannkcdeeaaGreatAmRule
namespace Go.Proofs.YtolapannkcdeeaaGreat.AM
set_option linter.unusedSimpArgs false
set_option linter.unusedVariables false
open Go Go.RowKit
noncomputable def XA : XT := ⟨E, [(73, ir73), (103, ir103), (106, ir106), (118, ir118), (119, ir119), (120, ir120), (121, ir121), (122, ir122), (126, ir126), (134, ir134), (135, ir135), (136, ir136), (210, ir210), (213, ir213), (214, ir214), (216, ir216), (224, ir224), (225, ir225), (226, ir226), (227, ir227), (228, ir228), (231, ir231 (rng 29)), (238, ir238), (242, ir242), (243, ir243), (244, ir244), (245, ir245), (248, ir248), (251, ir251), (252, ir252), (253, ir253), (254, ir254), (259, ir259)], [(ir231a0, ir231b0)]⟩
theorem XA_ok : XA.OK := XT.ok_of [⟨73, _, has73⟩, ⟨103, _, has103⟩, ⟨106, _, has106⟩, ⟨118, _, has118⟩, ⟨119, _, has119⟩, ⟨120, _, has120⟩, ⟨121, _, has121⟩, ⟨122, _, has122⟩, ⟨126, _, has126⟩, ⟨134, _, has134⟩, ⟨135, _, has135⟩, ⟨136, _, has136⟩, ⟨210, _, has210⟩, ⟨213, _, has213⟩, ⟨214, _, has214⟩, ⟨216, _, has216⟩, ⟨224, _, has224⟩, ⟨225, _, has225⟩, ⟨226, _, has226⟩, ⟨227, _, has227⟩, ⟨228, _, has228⟩, ⟨231, _, has231⟩, ⟨238, _, has238⟩, ⟨242, _, has242⟩, ⟨243, _, has243⟩, ⟨244, _, has244⟩, ⟨245, _, has245⟩, ⟨248, _, has248⟩, ⟨251, _, has251⟩, ⟨252, _, has252⟩, ⟨253, _, has253⟩, ⟨254, _, has254⟩, ⟨259, _, has259⟩] rfl
instance : Mixed XA.E := inferInstanceAs (Mixed E)
end Go.Proofs.YtolapannkcdeeaaGreat.AM
