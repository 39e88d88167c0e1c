/- Contracts of the library, laid in this seat: slices_Sort_int. -/
import Derived.Shelf.Sort.Plain
import Derived.Test.YtmagppkclnebjaaGreatDoorProg
set_option linter.unusedVariables false
set_option linter.unusedSimpArgs false
namespace Go.Proofs
open Go.Shelf
def Tryz.lays189_ren : Go.Shelf.Ren := ⟨fun | 189 => 142 | 125 => 135 | 257 => 163 | 128 => 160 | 129 => 161 | 294 => 188 | 295 => 189 | 296 => 190 | 297 => 191 | 298 => 192 | 299 => 193 | 216 => 194 | 300 => 195 | 301 => 196 | 328 => 216 | 329 => 176 | 330 => 177 | 331 => 217 | 332 => 218 | 215 => 136 | 343 => 227 | n => n, fun | 28 => 34 | 3 => 3 | 46 => 201 | 0 => 0 | 51 => 222 | 53 => 224 | 4 => 4 | 183 => 216 | 182 => 215 | 131 => 189 | 5 => 5 | 9 => 9 | 218 => 235 | 222 => 239 | 228 => 263 | 229 => 264 | n => n, fun | n => n⟩
theorem Tryz.lays189 : Go.Proofs.Lays.n189 Tryz.prog Tryz.lays189_ren := {
 mixed := by kernel_rfl
 f125 := Tryz.func135.trans (congrArg some (by kernel_rfl))
 f128 := Tryz.func160.trans (congrArg some (by kernel_rfl))
 f129 := Tryz.func161.trans (congrArg some (by kernel_rfl))
 f189 := Tryz.func142.trans (congrArg some (by kernel_rfl))
 f215 := Tryz.func136.trans (congrArg some (by kernel_rfl))
 f216 := Tryz.func194.trans (congrArg some (by kernel_rfl))
 f257 := Tryz.func163.trans (congrArg some (by kernel_rfl))
 f294 := Tryz.func188.trans (congrArg some (by kernel_rfl))
 f295 := Tryz.func189.trans (congrArg some (by kernel_rfl))
 f296 := Tryz.func190.trans (congrArg some (by kernel_rfl))
 f297 := Tryz.func191.trans (congrArg some (by kernel_rfl))
 f298 := Tryz.func192.trans (congrArg some (by kernel_rfl))
 f299 := Tryz.func193.trans (congrArg some (by kernel_rfl))
 f300 := Tryz.func195.trans (congrArg some (by kernel_rfl))
 f301 := Tryz.func196.trans (congrArg some (by kernel_rfl))
 f328 := Tryz.func216.trans (congrArg some (by kernel_rfl))
 f329 := Tryz.func176.trans (congrArg some (by kernel_rfl))
 f330 := Tryz.func177.trans (congrArg some (by kernel_rfl))
 f331 := Tryz.func217.trans (congrArg some (by kernel_rfl))
 f332 := Tryz.func218.trans (congrArg some (by kernel_rfl))
 f343 := Tryz.func227.trans (congrArg some (by kernel_rfl))
 t0 := Tryz.underlying0
 a0 := Tryz.isAgg0
 z0 := Tryz.sizeOf0
 v0 := Tryz.zeroValue0
 t3 := Tryz.underlying3
 a3 := Tryz.isAgg3
 z3 := Tryz.sizeOf3
 v3 := Tryz.zeroValue3
 t4 := Tryz.underlying4
 a4 := Tryz.isAgg4
 z4 := Tryz.sizeOf4
 v4 := Tryz.zeroValue4
 t5 := Tryz.underlying5
 a5 := Tryz.isAgg5
 z5 := Tryz.sizeOf5
 v5 := Tryz.zeroValue5
 t9 := Tryz.underlying9
 a9 := Tryz.isAgg9
 z9 := Tryz.sizeOf9
 v9 := Tryz.zeroValue9
 t28 := Tryz.underlying34
 a28 := Tryz.isAgg34
 z28 := Tryz.sizeOf34
 v28 := Tryz.zeroValue34
 t46 := Tryz.underlying201
 a46 := Tryz.isAgg201
 z46 := Tryz.sizeOf201
 v46 := Tryz.zeroValue201
 t51 := Tryz.underlying222
 a51 := Tryz.isAgg222
 z51 := Tryz.sizeOf222
 v51 := Tryz.zeroValue222
 t53 := Tryz.underlying224
 a53 := Tryz.isAgg224
 z53 := Tryz.sizeOf224
 v53 := Tryz.zeroValue224
 t131 := Tryz.underlying189
 a131 := Tryz.isAgg189
 z131 := Tryz.sizeOf189
 v131 := Tryz.zeroValue189
 t182 := Tryz.underlying215
 a182 := Tryz.isAgg215
 z182 := Tryz.sizeOf215
 v182 := Tryz.zeroValue215
 t183 := Tryz.underlying216
 a183 := Tryz.isAgg216
 z183 := Tryz.sizeOf216
 v183 := Tryz.zeroValue216
 t218 := Tryz.underlying235
 a218 := Tryz.isAgg235
 z218 := Tryz.sizeOf235
 v218 := Tryz.zeroValue235
 t222 := Tryz.underlying239
 a222 := Tryz.isAgg239
 z222 := Tryz.sizeOf239
 v222 := Tryz.zeroValue239
 t228 := Tryz.underlying263
 a228 := Tryz.isAgg263
 z228 := Tryz.sizeOf263
 v228 := Tryz.zeroValue263
 t229 := Tryz.underlying264
 a229 := Tryz.isAgg264
 z229 := Tryz.sizeOf264
 v229 := Tryz.zeroValue264 }
open Go.Sort Go.RowKit in
theorem Tryz.slices_Sort_int (blk off cap : Nat) (zs : List Int) (w : World) (hH : Holds (Value.int .i64) w blk off zs.toArray) (hblk : blk < w.heap.size) (hsz : zs.length < 4611686018427387904) :
 Calls Tryz.prog 142 #[.slice (some ⟨blk, off, none⟩) zs.length cap] w fun e w' =>
  e = .returned (.tuple #[]) ∧ ∃ n os, w' = grow (putRow (Value.int .i64) (Sort.ahead w n) blk off (zs.mergeSort fun x y => decide (x ≤ y)).toArray) os := Any.slices_Sort_int Tryz.lays189 blk off cap zs w hH hblk hsz
end Go.Proofs
