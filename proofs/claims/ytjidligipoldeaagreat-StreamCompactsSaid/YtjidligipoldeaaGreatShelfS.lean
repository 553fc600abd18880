/-
  DERIVED: THE SHELF's CONTRACTS AT THIS DUMP, IN PLAIN WORDS (tools/lay-plain.mjs out of 'TryzShelf.lean', which tools/lay-shelf.mjs wrote): THE SAME DECLARATIONS UNDER THE SAME NAMES: 'import', 'namespace', 'open', 'def', 'theorem' AND NOTHING ELSE: no command of the shelf's: FOR A HAND-IN. Each laying: the table of numbers ('.._ren') and one theorem, a field a fact of the dump's own or the kernel's comparison; each contract: ONE APPLICATION.
-/
import Derived.Shelf.Sort.Plain
import Derived.Test.YtjidligipoldeaaGreatProg
import Derived.Test.YtjidligipoldeaaGreatShelf
namespace Go.Proofs
open Go.Shelf
def Tryz.lays189_ren : Go.Shelf.Ren := ⟨fun | 189 => 236 | 125 => 251 | 257 => 250 | 128 => 269 | 129 => 270 | 294 => 260 | 295 => 261 | 296 => 262 | 297 => 263 | 298 => 264 | 299 => 265 | 216 => 266 | 300 => 267 | 301 => 268 | 328 => 272 | 329 => 273 | 330 => 274 | 331 => 275 | 332 => 276 | 215 => 208 | 343 => 277 | n => n, fun | 28 => 22 | 3 => 3 | 46 => 41 | 0 => 0 | 51 => 307 | 53 => 309 | 4 => 4 | 183 => 301 | 182 => 300 | 131 => 176 | 5 => 5 | 9 => 9 | 218 => 310 | 222 => 314 | 228 => 316 | 229 => 295 | n => n, fun | n => n⟩
theorem Tryz.lays189 : Go.Proofs.Lays.n189 Tryz.prog Tryz.lays189_ren := {
  mixed := by kernel_rfl
  f125 := Tryz.func251.trans (congrArg some (by kernel_rfl))
  f128 := Tryz.func269.trans (congrArg some (by kernel_rfl))
  f129 := Tryz.func270.trans (congrArg some (by kernel_rfl))
  f189 := Tryz.func236.trans (congrArg some (by kernel_rfl))
  f215 := Tryz.func208.trans (congrArg some (by kernel_rfl))
  f216 := Tryz.func266.trans (congrArg some (by kernel_rfl))
  f257 := Tryz.func250.trans (congrArg some (by kernel_rfl))
  f294 := Tryz.func260.trans (congrArg some (by kernel_rfl))
  f295 := Tryz.func261.trans (congrArg some (by kernel_rfl))
  f296 := Tryz.func262.trans (congrArg some (by kernel_rfl))
  f297 := Tryz.func263.trans (congrArg some (by kernel_rfl))
  f298 := Tryz.func264.trans (congrArg some (by kernel_rfl))
  f299 := Tryz.func265.trans (congrArg some (by kernel_rfl))
  f300 := Tryz.func267.trans (congrArg some (by kernel_rfl))
  f301 := Tryz.func268.trans (congrArg some (by kernel_rfl))
  f328 := Tryz.func272.trans (congrArg some (by kernel_rfl))
  f329 := Tryz.func273.trans (congrArg some (by kernel_rfl))
  f330 := Tryz.func274.trans (congrArg some (by kernel_rfl))
  f331 := Tryz.func275.trans (congrArg some (by kernel_rfl))
  f332 := Tryz.func276.trans (congrArg some (by kernel_rfl))
  f343 := Tryz.func277.trans (congrArg some (by kernel_rfl))
  t0 := Tryz.underlying0
  a0 := Tryz.isAgg0
  z0 := Tryz.sizeOf0
  v0 := Tryz.zeroValue0
  t3 := Tryz.underlying3
  a3 := Tryz.isAgg3
  z3 := Tryz.sizeOf3
  v3 := Tryz.zeroValue3
  t4 := Tryz.underlying4
  a4 := Tryz.isAgg4
  z4 := Tryz.sizeOf4
  v4 := Tryz.zeroValue4
  t5 := Tryz.underlying5
  a5 := Tryz.isAgg5
  z5 := Tryz.sizeOf5
  v5 := Tryz.zeroValue5
  t9 := Tryz.underlying9
  a9 := Tryz.isAgg9
  z9 := Tryz.sizeOf9
  v9 := Tryz.zeroValue9
  t28 := Tryz.underlying22
  a28 := Tryz.isAgg22
  z28 := Tryz.sizeOf22
  v28 := Tryz.zeroValue22
  t46 := Tryz.underlying41
  a46 := Tryz.isAgg41
  z46 := Tryz.sizeOf41
  v46 := Tryz.zeroValue41
  t51 := Tryz.underlying307
  a51 := Tryz.isAgg307
  z51 := Tryz.sizeOf307
  v51 := Tryz.zeroValue307
  t53 := Tryz.underlying309
  a53 := Tryz.isAgg309
  z53 := Tryz.sizeOf309
  v53 := Tryz.zeroValue309
  t131 := Tryz.underlying176
  a131 := Tryz.isAgg176
  z131 := Tryz.sizeOf176
  v131 := Tryz.zeroValue176
  t182 := Tryz.underlying300
  a182 := Tryz.isAgg300
  z182 := Tryz.sizeOf300
  v182 := Tryz.zeroValue300
  t183 := Tryz.underlying301
  a183 := Tryz.isAgg301
  z183 := Tryz.sizeOf301
  v183 := Tryz.zeroValue301
  t218 := Tryz.underlying310
  a218 := Tryz.isAgg310
  z218 := Tryz.sizeOf310
  v218 := Tryz.zeroValue310
  t222 := Tryz.underlying314
  a222 := Tryz.isAgg314
  z222 := Tryz.sizeOf314
  v222 := Tryz.zeroValue314
  t228 := Tryz.underlying316
  a228 := Tryz.isAgg316
  z228 := Tryz.sizeOf316
  v228 := Tryz.zeroValue316
  t229 := Tryz.underlying295
  a229 := Tryz.isAgg295
  z229 := Tryz.sizeOf295
  v229 := Tryz.zeroValue295 }
open Go.Sort Go.RowKit in
theorem Tryz.slices_Sort_int (blk off cap : Nat) (zs : List Int) (w : World) (hH : Holds (Value.int .i64) w blk off zs.toArray) (hblk : blk < w.heap.size) (hsz : zs.length < 4611686018427387904) :
    Calls Tryz.prog 236 #[.slice (some ⟨blk, off, none⟩) zs.length cap] w fun e w' =>
      e = .returned (.tuple #[]) ∧ ∃ n os, w' = grow (putRow (Value.int .i64) (Sort.ahead w n) blk off (zs.mergeSort fun x y => decide (x ≤ y)).toArray) os := Any.slices_Sort_int Tryz.lays189 blk off cap zs w hH hblk hsz
end Go.Proofs

