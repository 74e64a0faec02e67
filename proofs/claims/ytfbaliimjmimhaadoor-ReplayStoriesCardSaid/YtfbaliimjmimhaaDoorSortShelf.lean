/-
  DERIVED: THE SHELF's CONTRACTS AT THIS DUMP, IN PLAIN WORDS (tools/lay-plain.mjs out of 'TrydShelf.lean', which tools/lay-shelf.mjs wrote): THE SAME DECLARATIONS UNDER THE SAME NAMES: 'import', 'namespace', 'open', 'def', 'theorem' AND NOTHING ELSE: no command of the shelf's: FOR A HAND-IN. Each laying: the table of numbers ('.._ren') and one theorem, a field a fact of the dump's own or the kernel's comparison; each contract: ONE APPLICATION.
-/
import Derived.Shelf.Small.Wraps
import Derived.Shelf.Sort.Plain
import Derived.Shelf.Slices.In.SortNone
import Derived.Test.YtfbaliimjmimhaaDoorProg
namespace Go.Proofs
open Go.Shelf
def Tryd.lays215_ren : Go.Shelf.Ren := ⟨fun | 215 => 94 | n => n, fun | 3 => 3 | 4 => 4 | n => n, fun | n => n⟩
theorem Tryd.lays215 : Go.Proofs.Lays.n215 Tryd.prog Tryd.lays215_ren := {
  mixed := by kernel_rfl
  f215 := Tryd.func94.trans (congrArg some (by kernel_rfl))
  t3 := Tryd.underlying3
  a3 := Tryd.isAgg3
  z3 := Tryd.sizeOf3
  v3 := Tryd.zeroValue3
  t4 := Tryd.underlying4
  a4 := Tryd.isAgg4
  z4 := Tryd.sizeOf4
  v4 := Tryd.zeroValue4 }
open Go.RowKit in
/-- cmp.isNaN at int: 'x != x': false. (LAID: no walk: one application.) -/
theorem Tryd.cmp_isNaN_int (x : Int) (w : World) :
    Calls Tryd.prog 94 #[.int .i64 x] w fun e w' => e = .returned (.bool false) ∧ w' = w := Any.cmp_isNaN_int Tryd.lays215 x w
def Tryd.lays189_ren : Go.Shelf.Ren := ⟨fun | 189 => 39 | 125 => 52 | 257 => 51 | 128 => 81 | 129 => 82 | 294 => 72 | 295 => 73 | 296 => 74 | 297 => 75 | 298 => 76 | 299 => 77 | 216 => 78 | 300 => 79 | 301 => 80 | 328 => 89 | 329 => 90 | 330 => 91 | 331 => 92 | 332 => 93 | 215 => 94 | 343 => 96 | n => n, fun | 28 => 34 | 3 => 3 | 46 => 106 | 0 => 0 | 51 => 125 | 53 => 127 | 4 => 4 | 183 => 117 | 182 => 116 | 131 => 122 | 5 => 5 | 9 => 9 | 218 => 135 | 222 => 107 | 228 => 140 | 229 => 141 | n => n, fun | n => n⟩
theorem Tryd.lays189 : Go.Proofs.Lays.n189 Tryd.prog Tryd.lays189_ren := {
  mixed := by kernel_rfl
  f125 := Tryd.func52.trans (congrArg some (by kernel_rfl))
  f128 := Tryd.func81.trans (congrArg some (by kernel_rfl))
  f129 := Tryd.func82.trans (congrArg some (by kernel_rfl))
  f189 := Tryd.func39.trans (congrArg some (by kernel_rfl))
  f215 := Tryd.func94.trans (congrArg some (by kernel_rfl))
  f216 := Tryd.func78.trans (congrArg some (by kernel_rfl))
  f257 := Tryd.func51.trans (congrArg some (by kernel_rfl))
  f294 := Tryd.func72.trans (congrArg some (by kernel_rfl))
  f295 := Tryd.func73.trans (congrArg some (by kernel_rfl))
  f296 := Tryd.func74.trans (congrArg some (by kernel_rfl))
  f297 := Tryd.func75.trans (congrArg some (by kernel_rfl))
  f298 := Tryd.func76.trans (congrArg some (by kernel_rfl))
  f299 := Tryd.func77.trans (congrArg some (by kernel_rfl))
  f300 := Tryd.func79.trans (congrArg some (by kernel_rfl))
  f301 := Tryd.func80.trans (congrArg some (by kernel_rfl))
  f328 := Tryd.func89.trans (congrArg some (by kernel_rfl))
  f329 := Tryd.func90.trans (congrArg some (by kernel_rfl))
  f330 := Tryd.func91.trans (congrArg some (by kernel_rfl))
  f331 := Tryd.func92.trans (congrArg some (by kernel_rfl))
  f332 := Tryd.func93.trans (congrArg some (by kernel_rfl))
  f343 := Tryd.func96.trans (congrArg some (by kernel_rfl))
  t0 := Tryd.underlying0
  a0 := Tryd.isAgg0
  z0 := Tryd.sizeOf0
  v0 := Tryd.zeroValue0
  t3 := Tryd.underlying3
  a3 := Tryd.isAgg3
  z3 := Tryd.sizeOf3
  v3 := Tryd.zeroValue3
  t4 := Tryd.underlying4
  a4 := Tryd.isAgg4
  z4 := Tryd.sizeOf4
  v4 := Tryd.zeroValue4
  t5 := Tryd.underlying5
  a5 := Tryd.isAgg5
  z5 := Tryd.sizeOf5
  v5 := Tryd.zeroValue5
  t9 := Tryd.underlying9
  a9 := Tryd.isAgg9
  z9 := Tryd.sizeOf9
  v9 := Tryd.zeroValue9
  t28 := Tryd.underlying34
  a28 := Tryd.isAgg34
  z28 := Tryd.sizeOf34
  v28 := Tryd.zeroValue34
  t46 := Tryd.underlying106
  a46 := Tryd.isAgg106
  z46 := Tryd.sizeOf106
  v46 := Tryd.zeroValue106
  t51 := Tryd.underlying125
  a51 := Tryd.isAgg125
  z51 := Tryd.sizeOf125
  v51 := Tryd.zeroValue125
  t53 := Tryd.underlying127
  a53 := Tryd.isAgg127
  z53 := Tryd.sizeOf127
  v53 := Tryd.zeroValue127
  t131 := Tryd.underlying122
  a131 := Tryd.isAgg122
  z131 := Tryd.sizeOf122
  v131 := Tryd.zeroValue122
  t182 := Tryd.underlying116
  a182 := Tryd.isAgg116
  z182 := Tryd.sizeOf116
  v182 := Tryd.zeroValue116
  t183 := Tryd.underlying117
  a183 := Tryd.isAgg117
  z183 := Tryd.sizeOf117
  v183 := Tryd.zeroValue117
  t218 := Tryd.underlying135
  a218 := Tryd.isAgg135
  z218 := Tryd.sizeOf135
  v218 := Tryd.zeroValue135
  t222 := Tryd.underlying107
  a222 := Tryd.isAgg107
  z222 := Tryd.sizeOf107
  v222 := Tryd.zeroValue107
  t228 := Tryd.underlying140
  a228 := Tryd.isAgg140
  z228 := Tryd.sizeOf140
  v228 := Tryd.zeroValue140
  t229 := Tryd.underlying141
  a229 := Tryd.isAgg141
  z229 := Tryd.sizeOf141
  v229 := Tryd.zeroValue141 }
open Go.Sort Go.RowKit in
theorem Tryd.slices_Sort_int (blk off cap : Nat) (zs : List Int) (w : World) (hH : Holds (Value.int .i64) w blk off zs.toArray) (hblk : blk < w.heap.size) (hsz : zs.length < 4611686018427387904) :
    Calls Tryd.prog 39 #[.slice (some ⟨blk, off, none⟩) zs.length cap] w fun e w' =>
      e = .returned (.tuple #[]) ∧ ∃ n os, w' = grow (putRow (Value.int .i64) (Sort.ahead w n) blk off (zs.mergeSort fun x y => decide (x ≤ y)).toArray) os := Any.slices_Sort_int Tryd.lays189 blk off cap zs w hH hblk hsz
open Go.RowKit Go.Sort in
/-- .. and plain. (LAID: no walk: one application.) -/
theorem Tryd.slices_Sort_int_none (p : Option Addr) (cap : Nat) (w : World) :
    Calls Tryd.prog 39 #[.slice p 0 cap] w fun e w' => e = .returned (.tuple #[]) ∧ w' = w := Any.slices_Sort_int_none Tryd.lays189 p cap w
end Go.Proofs
