/- Contracts of the shelf, laid at this program in plain words (printed by the kit's lay-shelf and lay-plain). Conditions: none. -/
import Derived.Shelf.Sort.Plain
import Derived.Ground.Names2Prog
import Derived.Shelf.Slices.CompactI
import Derived.Shelf.Slices.In.SortNone
import Derived.Ground.SlgnProg
import Derived.Test.YtolapannkcdeeaaGreatProg
namespace Go.Proofs
open Go.Shelf
def Tryz.lays189_ren : Go.Shelf.Ren := ⟨fun | 189 => 54 | 125 => 73 | 257 => 72 | 128 => 94 | 129 => 95 | 294 => 85 | 295 => 86 | 296 => 87 | 297 => 88 | 298 => 89 | 299 => 90 | 216 => 91 | 300 => 92 | 301 => 93 | 328 => 101 | 329 => 102 | 330 => 103 | 331 => 104 | 332 => 105 | 215 => 106 | 343 => 110 | n => n, fun | 28 => 31 | 3 => 3 | 46 => 117 | 0 => 0 | 51 => 129 | 53 => 132 | 4 => 4 | 183 => 137 | 182 => 136 | 131 => 141 | 5 => 5 | 9 => 9 | 218 => 152 | 222 => 105 | 228 => 158 | 229 => 75 | n => n, fun | n => n⟩
theorem Tryz.lays189 : Go.Proofs.Lays.n189 Tryz.prog Tryz.lays189_ren := {
 mixed := by kernel_rfl
 f125 := Tryz.func73.trans (congrArg some (by kernel_rfl))
 f128 := Tryz.func94.trans (congrArg some (by kernel_rfl))
 f129 := Tryz.func95.trans (congrArg some (by kernel_rfl))
 f189 := Tryz.func54.trans (congrArg some (by kernel_rfl))
 f215 := Tryz.func106.trans (congrArg some (by kernel_rfl))
 f216 := Tryz.func91.trans (congrArg some (by kernel_rfl))
 f257 := Tryz.func72.trans (congrArg some (by kernel_rfl))
 f294 := Tryz.func85.trans (congrArg some (by kernel_rfl))
 f295 := Tryz.func86.trans (congrArg some (by kernel_rfl))
 f296 := Tryz.func87.trans (congrArg some (by kernel_rfl))
 f297 := Tryz.func88.trans (congrArg some (by kernel_rfl))
 f298 := Tryz.func89.trans (congrArg some (by kernel_rfl))
 f299 := Tryz.func90.trans (congrArg some (by kernel_rfl))
 f300 := Tryz.func92.trans (congrArg some (by kernel_rfl))
 f301 := Tryz.func93.trans (congrArg some (by kernel_rfl))
 f328 := Tryz.func101.trans (congrArg some (by kernel_rfl))
 f329 := Tryz.func102.trans (congrArg some (by kernel_rfl))
 f330 := Tryz.func103.trans (congrArg some (by kernel_rfl))
 f331 := Tryz.func104.trans (congrArg some (by kernel_rfl))
 f332 := Tryz.func105.trans (congrArg some (by kernel_rfl))
 f343 := Tryz.func110.trans (congrArg some (by kernel_rfl))
 t0 := Tryz.underlying0
 a0 := Tryz.isAgg0
 z0 := Tryz.sizeOf0
 v0 := Tryz.zeroValue0
 t3 := Tryz.underlying3
 a3 := Tryz.isAgg3
 z3 := Tryz.sizeOf3
 v3 := Tryz.zeroValue3
 t4 := Tryz.underlying4
 a4 := Tryz.isAgg4
 z4 := Tryz.sizeOf4
 v4 := Tryz.zeroValue4
 t5 := Tryz.underlying5
 a5 := Tryz.isAgg5
 z5 := Tryz.sizeOf5
 v5 := Tryz.zeroValue5
 t9 := Tryz.underlying9
 a9 := Tryz.isAgg9
 z9 := Tryz.sizeOf9
 v9 := Tryz.zeroValue9
 t28 := Tryz.underlying31
 a28 := Tryz.isAgg31
 z28 := Tryz.sizeOf31
 v28 := Tryz.zeroValue31
 t46 := Tryz.underlying117
 a46 := Tryz.isAgg117
 z46 := Tryz.sizeOf117
 v46 := Tryz.zeroValue117
 t51 := Tryz.underlying129
 a51 := Tryz.isAgg129
 z51 := Tryz.sizeOf129
 v51 := Tryz.zeroValue129
 t53 := Tryz.underlying132
 a53 := Tryz.isAgg132
 z53 := Tryz.sizeOf132
 v53 := Tryz.zeroValue132
 t131 := Tryz.underlying141
 a131 := Tryz.isAgg141
 z131 := Tryz.sizeOf141
 v131 := Tryz.zeroValue141
 t182 := Tryz.underlying136
 a182 := Tryz.isAgg136
 z182 := Tryz.sizeOf136
 v182 := Tryz.zeroValue136
 t183 := Tryz.underlying137
 a183 := Tryz.isAgg137
 z183 := Tryz.sizeOf137
 v183 := Tryz.zeroValue137
 t218 := Tryz.underlying152
 a218 := Tryz.isAgg152
 z218 := Tryz.sizeOf152
 v218 := Tryz.zeroValue152
 t222 := Tryz.underlying105
 a222 := Tryz.isAgg105
 z222 := Tryz.sizeOf105
 v222 := Tryz.zeroValue105
 t228 := Tryz.underlying158
 a228 := Tryz.isAgg158
 z228 := Tryz.sizeOf158
 v228 := Tryz.zeroValue158
 t229 := Tryz.underlying75
 a229 := Tryz.isAgg75
 z229 := Tryz.sizeOf75
 v229 := Tryz.zeroValue75 }
open Go.Sort Go.RowKit in
theorem Tryz.slices_Sort_int (blk off cap : Nat) (zs : List Int) (w : World) (hH : Holds (Value.int .i64) w blk off zs.toArray) (hblk : blk < w.heap.size) (hsz : zs.length < 4611686018427387904) :
 Calls Tryz.prog 54 #[.slice (some ⟨blk, off, none⟩) zs.length cap] w fun e w' =>
  e = .returned (.tuple #[]) ∧ ∃ n os, w' = grow (putRow (Value.int .i64) (Sort.ahead w n) blk off (zs.mergeSort fun x y => decide (x ≤ y)).toArray) os := Any.slices_Sort_int Tryz.lays189 blk off cap zs w hH hblk hsz
def Tryz.laysNm220_ren : Go.Shelf.Ren := ⟨fun | 20 => 55 | n => n, fun | 22 => 31 | 3 => 3 | 4 => 4 | 0 => 0 | n => n, fun | n => n⟩
theorem Tryz.laysNm220 : Go.Proofs.Lays2.n20 Tryz.prog Tryz.laysNm220_ren := {
 mixed := by kernel_rfl
 f20 := Tryz.func55.trans (congrArg some (by kernel_rfl))
 t0 := Tryz.underlying0
 a0 := Tryz.isAgg0
 z0 := Tryz.sizeOf0
 v0 := Tryz.zeroValue0
 t3 := Tryz.underlying3
 a3 := Tryz.isAgg3
 z3 := Tryz.sizeOf3
 v3 := Tryz.zeroValue3
 t4 := Tryz.underlying4
 a4 := Tryz.isAgg4
 z4 := Tryz.sizeOf4
 v4 := Tryz.zeroValue4
 t22 := Tryz.underlying31
 a22 := Tryz.isAgg31
 z22 := Tryz.sizeOf31
 v22 := Tryz.zeroValue31
 i3 := by kernel_rfl }
open Go.RowKit Go.Lib Go.Sort in
theorem Tryz.slices_Compact_int (blk off cap : Nat) (zs : List Int) (w : World) (hH : Holds (Value.int .i64) w blk off zs.toArray) (hsz : zs.length ≤ 9223372036854775807) (hcap : zs.length ≤ cap) :
 Calls Tryz.prog 55 #[.slice (some ⟨blk, off, none⟩) zs.length cap] w fun e w' => e = .returned (.slice (some ⟨blk, off, none⟩) (Lib.compact zs).length cap) ∧ ∃ q, w' = putRow (Value.int .i64) (Sort.ahead w q) blk off (Lib.compact zs ++ List.replicate (zs.length - (Lib.compact zs).length) 0).toArray := Any.slices_Compact_int Tryz.laysNm220 blk off cap zs w hH hsz hcap
open Go.RowKit Go.Lib Go.Sort in
theorem Tryz.slices_Compact_int_empty (a : Option Addr) (cap : Nat) (w : World) :
 Calls Tryz.prog 55 #[.slice a 0 cap] w fun e w' => e = .returned (.slice a 0 cap) ∧ w' = w := Any.slices_Compact_int_empty Tryz.laysNm220 a cap w
open Go.RowKit Go.Sort in
theorem Tryz.slices_Sort_int_none (p : Option Addr) (cap : Nat) (w : World) :
 Calls Tryz.prog 54 #[.slice p 0 cap] w fun e w' => e = .returned (.tuple #[]) ∧ w' = w := Any.slices_Sort_int_none Tryz.lays189 p cap w
end Go.Proofs
