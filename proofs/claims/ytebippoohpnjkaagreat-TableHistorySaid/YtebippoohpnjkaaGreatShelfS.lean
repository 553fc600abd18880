/-
  DERIVED: THE SHELF's CONTRACTS AT THIS DUMP, IN PLAIN WORDS (tools/lay-plain.mjs out of 'TryzShelf.lean', which tools/lay-shelf.mjs wrote): THE SAME DECLARATIONS UNDER THE SAME NAMES: 'import', 'namespace', 'open', 'def', 'theorem' AND NOTHING ELSE: no command of the shelf's: FOR A HAND-IN. Each laying: the table of numbers ('.._ren') and one theorem, a field a fact of the dump's own or the kernel's comparison; each contract: ONE APPLICATION.
-/
import Derived.Shelf.Sort.Plain
import Derived.Test.YtebippoohpnjkaaGreatProg
import Derived.Test.YtebippoohpnjkaaGreatShelf
namespace Go.Proofs
open Go.Shelf
def Tryz.lays189_ren : Go.Shelf.Ren := ⟨fun | 189 => 247 | 125 => 147 | 257 => 263 | 128 => 211 | 129 => 212 | 294 => 272 | 295 => 273 | 296 => 274 | 297 => 275 | 298 => 276 | 299 => 277 | 216 => 278 | 300 => 279 | 301 => 280 | 328 => 282 | 329 => 241 | 330 => 242 | 331 => 283 | 332 => 284 | 215 => 213 | 343 => 285 | n => n, fun | 28 => 22 | 3 => 3 | 46 => 122 | 0 => 0 | 51 => 268 | 53 => 270 | 4 => 4 | 183 => 262 | 182 => 261 | 131 => 188 | 5 => 5 | 9 => 9 | 218 => 287 | 222 => 291 | 228 => 305 | 229 => 306 | n => n, fun | n => n⟩
theorem Tryz.lays189 : Go.Proofs.Lays.n189 Tryz.prog Tryz.lays189_ren := {
  mixed := by kernel_rfl
  f125 := Tryz.func147.trans (congrArg some (by kernel_rfl))
  f128 := Tryz.func211.trans (congrArg some (by kernel_rfl))
  f129 := Tryz.func212.trans (congrArg some (by kernel_rfl))
  f189 := Tryz.func247.trans (congrArg some (by kernel_rfl))
  f215 := Tryz.func213.trans (congrArg some (by kernel_rfl))
  f216 := Tryz.func278.trans (congrArg some (by kernel_rfl))
  f257 := Tryz.func263.trans (congrArg some (by kernel_rfl))
  f294 := Tryz.func272.trans (congrArg some (by kernel_rfl))
  f295 := Tryz.func273.trans (congrArg some (by kernel_rfl))
  f296 := Tryz.func274.trans (congrArg some (by kernel_rfl))
  f297 := Tryz.func275.trans (congrArg some (by kernel_rfl))
  f298 := Tryz.func276.trans (congrArg some (by kernel_rfl))
  f299 := Tryz.func277.trans (congrArg some (by kernel_rfl))
  f300 := Tryz.func279.trans (congrArg some (by kernel_rfl))
  f301 := Tryz.func280.trans (congrArg some (by kernel_rfl))
  f328 := Tryz.func282.trans (congrArg some (by kernel_rfl))
  f329 := Tryz.func241.trans (congrArg some (by kernel_rfl))
  f330 := Tryz.func242.trans (congrArg some (by kernel_rfl))
  f331 := Tryz.func283.trans (congrArg some (by kernel_rfl))
  f332 := Tryz.func284.trans (congrArg some (by kernel_rfl))
  f343 := Tryz.func285.trans (congrArg some (by kernel_rfl))
  t0 := Tryz.underlying0
  a0 := Tryz.isAgg0
  z0 := Tryz.sizeOf0
  v0 := Tryz.zeroValue0
  t3 := Tryz.underlying3
  a3 := Tryz.isAgg3
  z3 := Tryz.sizeOf3
  v3 := Tryz.zeroValue3
  t4 := Tryz.underlying4
  a4 := Tryz.isAgg4
  z4 := Tryz.sizeOf4
  v4 := Tryz.zeroValue4
  t5 := Tryz.underlying5
  a5 := Tryz.isAgg5
  z5 := Tryz.sizeOf5
  v5 := Tryz.zeroValue5
  t9 := Tryz.underlying9
  a9 := Tryz.isAgg9
  z9 := Tryz.sizeOf9
  v9 := Tryz.zeroValue9
  t28 := Tryz.underlying22
  a28 := Tryz.isAgg22
  z28 := Tryz.sizeOf22
  v28 := Tryz.zeroValue22
  t46 := Tryz.underlying122
  a46 := Tryz.isAgg122
  z46 := Tryz.sizeOf122
  v46 := Tryz.zeroValue122
  t51 := Tryz.underlying268
  a51 := Tryz.isAgg268
  z51 := Tryz.sizeOf268
  v51 := Tryz.zeroValue268
  t53 := Tryz.underlying270
  a53 := Tryz.isAgg270
  z53 := Tryz.sizeOf270
  v53 := Tryz.zeroValue270
  t131 := Tryz.underlying188
  a131 := Tryz.isAgg188
  z131 := Tryz.sizeOf188
  v131 := Tryz.zeroValue188
  t182 := Tryz.underlying261
  a182 := Tryz.isAgg261
  z182 := Tryz.sizeOf261
  v182 := Tryz.zeroValue261
  t183 := Tryz.underlying262
  a183 := Tryz.isAgg262
  z183 := Tryz.sizeOf262
  v183 := Tryz.zeroValue262
  t218 := Tryz.underlying287
  a218 := Tryz.isAgg287
  z218 := Tryz.sizeOf287
  v218 := Tryz.zeroValue287
  t222 := Tryz.underlying291
  a222 := Tryz.isAgg291
  z222 := Tryz.sizeOf291
  v222 := Tryz.zeroValue291
  t228 := Tryz.underlying305
  a228 := Tryz.isAgg305
  z228 := Tryz.sizeOf305
  v228 := Tryz.zeroValue305
  t229 := Tryz.underlying306
  a229 := Tryz.isAgg306
  z229 := Tryz.sizeOf306
  v229 := Tryz.zeroValue306 }
open Go.Sort Go.RowKit in
theorem Tryz.slices_Sort_int (blk off cap : Nat) (zs : List Int) (w : World) (hH : Holds (Value.int .i64) w blk off zs.toArray) (hblk : blk < w.heap.size) (hsz : zs.length < 4611686018427387904) :
    Calls Tryz.prog 247 #[.slice (some ⟨blk, off, none⟩) zs.length cap] w fun e w' =>
      e = .returned (.tuple #[]) ∧ ∃ n os, w' = grow (putRow (Value.int .i64) (Sort.ahead w n) blk off (zs.mergeSort fun x y => decide (x ≤ y)).toArray) os := Any.slices_Sort_int Tryz.lays189 blk off cap zs w hH hblk hsz
end Go.Proofs

