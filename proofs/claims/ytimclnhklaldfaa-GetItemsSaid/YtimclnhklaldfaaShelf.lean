/-
  DERIVED: THE SHELF's CONTRACTS AT THIS DUMP, IN PLAIN WORDS (tools/lay-plain.mjs out of 'TryShelf.lean', which tools/lay-shelf.mjs wrote): THE SAME DECLARATIONS UNDER THE SAME NAMES: 'import', 'namespace', 'open', 'def', 'theorem' AND NOTHING ELSE: no command of the shelf's: FOR A HAND-IN. Each laying: the table of numbers ('.._ren') and one theorem, a field a fact of the dump's own or the kernel's comparison; each contract: ONE APPLICATION.
-/
import Derived.Shelf.Sort.Plain
import Derived.Shelf.Slices.In.SortNone
import Derived.Test.YtimclnhklaldfaaProg
namespace Go.Proofs
open Go.Shelf
def Try.lays189_ren : Go.Shelf.Ren := ⟨fun | 189 => 51 | 125 => 63 | 257 => 62 | 128 => 79 | 129 => 80 | 294 => 70 | 295 => 71 | 296 => 72 | 297 => 73 | 298 => 74 | 299 => 75 | 216 => 76 | 300 => 77 | 301 => 78 | 328 => 85 | 329 => 86 | 330 => 87 | 331 => 88 | 332 => 89 | 215 => 90 | 343 => 91 | n => n, fun | 28 => 57 | 3 => 3 | 46 => 47 | 0 => 0 | 51 => 117 | 53 => 105 | 4 => 4 | 183 => 110 | 182 => 109 | 131 => 81 | 5 => 5 | 9 => 9 | 218 => 120 | 222 => 124 | 228 => 126 | 229 => 127 | n => n, fun | n => n⟩
theorem Try.lays189 : Go.Proofs.Lays.n189 Try.prog Try.lays189_ren := {
  mixed := by kernel_rfl
  f125 := Try.func63.trans (congrArg some (by kernel_rfl))
  f128 := Try.func79.trans (congrArg some (by kernel_rfl))
  f129 := Try.func80.trans (congrArg some (by kernel_rfl))
  f189 := Try.func51.trans (congrArg some (by kernel_rfl))
  f215 := Try.func90.trans (congrArg some (by kernel_rfl))
  f216 := Try.func76.trans (congrArg some (by kernel_rfl))
  f257 := Try.func62.trans (congrArg some (by kernel_rfl))
  f294 := Try.func70.trans (congrArg some (by kernel_rfl))
  f295 := Try.func71.trans (congrArg some (by kernel_rfl))
  f296 := Try.func72.trans (congrArg some (by kernel_rfl))
  f297 := Try.func73.trans (congrArg some (by kernel_rfl))
  f298 := Try.func74.trans (congrArg some (by kernel_rfl))
  f299 := Try.func75.trans (congrArg some (by kernel_rfl))
  f300 := Try.func77.trans (congrArg some (by kernel_rfl))
  f301 := Try.func78.trans (congrArg some (by kernel_rfl))
  f328 := Try.func85.trans (congrArg some (by kernel_rfl))
  f329 := Try.func86.trans (congrArg some (by kernel_rfl))
  f330 := Try.func87.trans (congrArg some (by kernel_rfl))
  f331 := Try.func88.trans (congrArg some (by kernel_rfl))
  f332 := Try.func89.trans (congrArg some (by kernel_rfl))
  f343 := Try.func91.trans (congrArg some (by kernel_rfl))
  t0 := Try.underlying0
  a0 := Try.isAgg0
  z0 := Try.sizeOf0
  v0 := Try.zeroValue0
  t3 := Try.underlying3
  a3 := Try.isAgg3
  z3 := Try.sizeOf3
  v3 := Try.zeroValue3
  t4 := Try.underlying4
  a4 := Try.isAgg4
  z4 := Try.sizeOf4
  v4 := Try.zeroValue4
  t5 := Try.underlying5
  a5 := Try.isAgg5
  z5 := Try.sizeOf5
  v5 := Try.zeroValue5
  t9 := Try.underlying9
  a9 := Try.isAgg9
  z9 := Try.sizeOf9
  v9 := Try.zeroValue9
  t28 := Try.underlying57
  a28 := Try.isAgg57
  z28 := Try.sizeOf57
  v28 := Try.zeroValue57
  t46 := Try.underlying47
  a46 := Try.isAgg47
  z46 := Try.sizeOf47
  v46 := Try.zeroValue47
  t51 := Try.underlying117
  a51 := Try.isAgg117
  z51 := Try.sizeOf117
  v51 := Try.zeroValue117
  t53 := Try.underlying105
  a53 := Try.isAgg105
  z53 := Try.sizeOf105
  v53 := Try.zeroValue105
  t131 := Try.underlying81
  a131 := Try.isAgg81
  z131 := Try.sizeOf81
  v131 := Try.zeroValue81
  t182 := Try.underlying109
  a182 := Try.isAgg109
  z182 := Try.sizeOf109
  v182 := Try.zeroValue109
  t183 := Try.underlying110
  a183 := Try.isAgg110
  z183 := Try.sizeOf110
  v183 := Try.zeroValue110
  t218 := Try.underlying120
  a218 := Try.isAgg120
  z218 := Try.sizeOf120
  v218 := Try.zeroValue120
  t222 := Try.underlying124
  a222 := Try.isAgg124
  z222 := Try.sizeOf124
  v222 := Try.zeroValue124
  t228 := Try.underlying126
  a228 := Try.isAgg126
  z228 := Try.sizeOf126
  v228 := Try.zeroValue126
  t229 := Try.underlying127
  a229 := Try.isAgg127
  z229 := Try.sizeOf127
  v229 := Try.zeroValue127 }
open Go.Sort Go.RowKit in
theorem Try.slices_Sort_int (blk off cap : Nat) (zs : List Int) (w : World) (hH : Holds (Value.int .i64) w blk off zs.toArray) (hblk : blk < w.heap.size) (hsz : zs.length < 4611686018427387904) :
    Calls Try.prog 51 #[.slice (some ⟨blk, off, none⟩) zs.length cap] w fun e w' =>
      e = .returned (.tuple #[]) ∧ ∃ n os, w' = grow (putRow (Value.int .i64) (Sort.ahead w n) blk off (zs.mergeSort fun x y => decide (x ≤ y)).toArray) os := Any.slices_Sort_int Try.lays189 blk off cap zs w hH hblk hsz
open Go.RowKit Go.Sort in
/-- .. and plain. (LAID: no walk: one application.) -/
theorem Try.slices_Sort_int_none (p : Option Addr) (cap : Nat) (w : World) :
    Calls Try.prog 51 #[.slice p 0 cap] w fun e w' => e = .returned (.tuple #[]) ∧ w' = w := Any.slices_Sort_int_none Try.lays189 p cap w
end Go.Proofs
