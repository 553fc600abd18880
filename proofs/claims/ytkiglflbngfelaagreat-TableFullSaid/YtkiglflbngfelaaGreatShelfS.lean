/-
  DERIVED: THE SHELF's CONTRACTS AT THIS DUMP, IN PLAIN WORDS (tools/lay-plain.mjs out of 'TryzShelf.lean', which tools/lay-shelf.mjs wrote): THE SAME DECLARATIONS UNDER THE SAME NAMES: 'import', 'namespace', 'open', 'def', 'theorem' AND NOTHING ELSE: no command of the shelf's: FOR A HAND-IN. Each laying: the table of numbers ('.._ren') and one theorem, a field a fact of the dump's own or the kernel's comparison; each contract: ONE APPLICATION.
-/
import Derived.Shelf.Sort.Plain
import Derived.Shelf.Slices.In.SortNone
import Derived.Test.YtkiglflbngfelaaGreatShelf
namespace Go.Proofs
open Go.Shelf
def Tryz.lays189_ren : Go.Shelf.Ren := ⟨fun | 189 => 227 | 125 => 109 | 257 => 244 | 128 => 155 | 129 => 156 | 294 => 254 | 295 => 255 | 296 => 256 | 297 => 257 | 298 => 258 | 299 => 259 | 216 => 260 | 300 => 261 | 301 => 262 | 328 => 264 | 329 => 204 | 330 => 205 | 331 => 265 | 332 => 266 | 215 => 157 | 343 => 267 | n => n, fun | 28 => 22 | 3 => 3 | 46 => 114 | 0 => 0 | 51 => 200 | 53 => 202 | 4 => 4 | 183 => 194 | 182 => 193 | 131 => 141 | 5 => 5 | 9 => 9 | 218 => 257 | 222 => 261 | 228 => 281 | 229 => 282 | n => n, fun | n => n⟩
theorem Tryz.lays189 : Go.Proofs.Lays.n189 Tryz.prog Tryz.lays189_ren := {
  mixed := by kernel_rfl
  f125 := Tryz.func109.trans (congrArg some (by kernel_rfl))
  f128 := Tryz.func155.trans (congrArg some (by kernel_rfl))
  f129 := Tryz.func156.trans (congrArg some (by kernel_rfl))
  f189 := Tryz.func227.trans (congrArg some (by kernel_rfl))
  f215 := Tryz.func157.trans (congrArg some (by kernel_rfl))
  f216 := Tryz.func260.trans (congrArg some (by kernel_rfl))
  f257 := Tryz.func244.trans (congrArg some (by kernel_rfl))
  f294 := Tryz.func254.trans (congrArg some (by kernel_rfl))
  f295 := Tryz.func255.trans (congrArg some (by kernel_rfl))
  f296 := Tryz.func256.trans (congrArg some (by kernel_rfl))
  f297 := Tryz.func257.trans (congrArg some (by kernel_rfl))
  f298 := Tryz.func258.trans (congrArg some (by kernel_rfl))
  f299 := Tryz.func259.trans (congrArg some (by kernel_rfl))
  f300 := Tryz.func261.trans (congrArg some (by kernel_rfl))
  f301 := Tryz.func262.trans (congrArg some (by kernel_rfl))
  f328 := Tryz.func264.trans (congrArg some (by kernel_rfl))
  f329 := Tryz.func204.trans (congrArg some (by kernel_rfl))
  f330 := Tryz.func205.trans (congrArg some (by kernel_rfl))
  f331 := Tryz.func265.trans (congrArg some (by kernel_rfl))
  f332 := Tryz.func266.trans (congrArg some (by kernel_rfl))
  f343 := Tryz.func267.trans (congrArg some (by kernel_rfl))
  t0 := Tryz.underlying0
  a0 := Tryz.isAgg0
  z0 := Tryz.sizeOf0
  v0 := Tryz.zeroValue0
  t3 := Tryz.underlying3
  a3 := Tryz.isAgg3
  z3 := Tryz.sizeOf3
  v3 := Tryz.zeroValue3
  t4 := Tryz.underlying4
  a4 := Tryz.isAgg4
  z4 := Tryz.sizeOf4
  v4 := Tryz.zeroValue4
  t5 := Tryz.underlying5
  a5 := Tryz.isAgg5
  z5 := Tryz.sizeOf5
  v5 := Tryz.zeroValue5
  t9 := Tryz.underlying9
  a9 := Tryz.isAgg9
  z9 := Tryz.sizeOf9
  v9 := Tryz.zeroValue9
  t28 := Tryz.underlying22
  a28 := Tryz.isAgg22
  z28 := Tryz.sizeOf22
  v28 := Tryz.zeroValue22
  t46 := Tryz.underlying114
  a46 := Tryz.isAgg114
  z46 := Tryz.sizeOf114
  v46 := Tryz.zeroValue114
  t51 := Tryz.underlying200
  a51 := Tryz.isAgg200
  z51 := Tryz.sizeOf200
  v51 := Tryz.zeroValue200
  t53 := Tryz.underlying202
  a53 := Tryz.isAgg202
  z53 := Tryz.sizeOf202
  v53 := Tryz.zeroValue202
  t131 := Tryz.underlying141
  a131 := Tryz.isAgg141
  z131 := Tryz.sizeOf141
  v131 := Tryz.zeroValue141
  t182 := Tryz.underlying193
  a182 := Tryz.isAgg193
  z182 := Tryz.sizeOf193
  v182 := Tryz.zeroValue193
  t183 := Tryz.underlying194
  a183 := Tryz.isAgg194
  z183 := Tryz.sizeOf194
  v183 := Tryz.zeroValue194
  t218 := Tryz.underlying257
  a218 := Tryz.isAgg257
  z218 := Tryz.sizeOf257
  v218 := Tryz.zeroValue257
  t222 := Tryz.underlying261
  a222 := Tryz.isAgg261
  z222 := Tryz.sizeOf261
  v222 := Tryz.zeroValue261
  t228 := Tryz.underlying281
  a228 := Tryz.isAgg281
  z228 := Tryz.sizeOf281
  v228 := Tryz.zeroValue281
  t229 := Tryz.underlying282
  a229 := Tryz.isAgg282
  z229 := Tryz.sizeOf282
  v229 := Tryz.zeroValue282 }
open Go.Sort Go.RowKit in
theorem Tryz.slices_Sort_int (blk off cap : Nat) (zs : List Int) (w : World) (hH : Holds (Value.int .i64) w blk off zs.toArray) (hblk : blk < w.heap.size) (hsz : zs.length < 4611686018427387904) :
    Calls Tryz.prog 227 #[.slice (some ⟨blk, off, none⟩) zs.length cap] w fun e w' =>
      e = .returned (.tuple #[]) ∧ ∃ n os, w' = grow (putRow (Value.int .i64) (Sort.ahead w n) blk off (zs.mergeSort fun x y => decide (x ≤ y)).toArray) os := Any.slices_Sort_int Tryz.lays189 blk off cap zs w hH hblk hsz
open Go.RowKit Go.Sort in
/-- .. and plain. (LAID: no walk: one application.) -/
theorem Tryz.slices_Sort_int_none (p : Option Addr) (cap : Nat) (w : World) :
    Calls Tryz.prog 227 #[.slice p 0 cap] w fun e w' => e = .returned (.tuple #[]) ∧ w' = w := Any.slices_Sort_int_none Tryz.lays189 p cap w
end Go.Proofs
