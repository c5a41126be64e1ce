/- What the row's condition on variables, and a world's shape, say of their cells. Conditions: none. -/
import Derived.Test.YtolapannkcdeeaaGreatDoorAmMan
import Derived.Test.YtolapannkcdeeaaGreatDoorRows
import Derived.Stop.LaidErr
import Derived.Lib.LaidTab
import Derived.Shelf.Vars
import Derived.MakeChecks
namespace Go.Proofs.YtolapannkcdeeaaGreatDoor.AM
set_option linter.unusedSimpArgs false
set_option linter.unusedVariables false
open Go Go.RowKit
def laidL : List (String × DataW Unit) := [("math/bits.deBruijn32tab", Rows.laid_math_bits_deBruijn32tab), ("math/bits.deBruijn64tab", Rows.laid_math_bits_deBruijn64tab), ("internal/strconv.uint64pow10", Rows.laid_internal_strconv_uint64pow10), ("unicode/utf8.acceptRanges", Rows.laid_unicode_utf8_acceptRanges), ("strconv.ErrRange", Rows.laid_strconv_ErrRange), ("strconv.ErrSyntax", Rows.laid_strconv_ErrSyntax), ("unicode/utf8.first", Rows.laid_unicode_utf8_first)]
theorem starE : "*" ++ "errors.errorString" = "*errors.errorString" := by decide
theorem row243 (u : TypeId) (h : Tryz.prog.typeName? 3 u = some "*errors.errorString") : u = 243 :=
 typeName_ptr_named (nm := "errors.errorString") (by rw [starE]; kernel_rfl) (by kernel_rfl) (by decide) u (by rw [starE]; exact h)
theorem gwb_of {W : World} (h : laidMetH Tryz.prog laidL W) (hsh : W.ShapedOpen Tryz.prog) : GW W ∧ GB W := by
 rw [MakeChecks.laidMetH_plain _ _ _ (by kernel_rfl)] at h
 have h3 := h.tail.tail
 have hT : Lib.TabIs Tryz.prog W "internal/strconv.uint64pow10" .u64 Lib.pow10Tab := by
   have e : Rows.laid_internal_strconv_uint64pow10 = (Lib.tabData .u64 Lib.pow10Tab : DataW Unit) := by kernel_rfl
   rw [e] at h3
   exact Lib.tabIs_of_head (g := 3) (t := 235) (e := 204) (n := 20) (by kernel_rfl) (by kernel_rfl) Tryz.underlying235 Tryz.underlying204 (by kernel_rfl) (by kernel_rfl) h3
 have h5 := h3.tail.tail
 obtain ⟨a1, s1, hR, _⟩ := laid_sentinel (g := 2) (ti := 142) (tp := 243) (te := 245) (ts := 9) h5 (by kernel_rfl) (by kernel_rfl) Tryz.underlying142 row243 Tryz.underlying243 Tryz.underlying245 rfl rfl Tryz.underlying9 (by kernel_rfl) (by kernel_rfl)
 obtain ⟨a2, s2, hS, _⟩ := laid_sentinel (g := 1) (ti := 142) (tp := 243) (te := 245) (ts := 9) h5.tail (by kernel_rfl) (by kernel_rfl) Tryz.underlying142 row243 Tryz.underlying243 Tryz.underlying245 rfl rfl Tryz.underlying9 (by kernel_rfl) (by kernel_rfl)
 obtain ⟨m, hm⟩ := cell_of_shapedOpen_int (g := 0) (t := 3) (zero := #[.int .i64 0]) hsh (of_decide_eq_true (by kernel_rfl)) (by kernel_rfl) rfl (by kernel_rfl) (by kernel_rfl) Tryz.underlying3
 have hlen : Lib.pow10Tab.length = 20 := by simp [Lib.pow10Tab]
 have g3 : Tryz.prog.globalNamed "internal/strconv.uint64pow10" = some 3 := by kernel_rfl
 constructor
 · intro x hx
   unfold TBL at hx
   simp only [List.mem_cons, List.mem_map, List.mem_range] at hx
   rcases hx with rfl | rfl | rfl | ⟨i, hi, rfl⟩
   · exact ⟨_, hm, m, rfl⟩
   · have := World.var?_cell (g := 1) (by kernel_rfl) hS 0
     exact ⟨_, by simpa using this, _, _, rfl⟩
   · have := World.var?_cell (g := 2) (by kernel_rfl) hR 0
     exact ⟨_, by simpa using this, _, _, rfl⟩
   · exact ⟨_, hT.cell g3 i (by omega), rfl⟩
 · intro x hx
   unfold TBLS at hx
   simp only [List.mem_cons, List.not_mem_nil, or_false] at hx
   subst hx
   unfold Lib.TabIs World.var? at hT
   rw [g3] at hT
   simp only [Option.bind_some] at hT
   unfold osz
   split at hT
   · rename_i cs t f e
     simp only [e]
     injection hT with hT
     rw [hT]; simp [hlen]
   · cases hT
end Go.Proofs.YtolapannkcdeeaaGreatDoor.AM
