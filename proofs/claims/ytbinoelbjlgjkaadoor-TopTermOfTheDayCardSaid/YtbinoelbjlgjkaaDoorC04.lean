/- Chapter 8 and what it rests on: definitions and walks, part 04. -/
import Derived.Shelf.Small.Bits
import Derived.Shelf.Small.Wraps
import Derived.Shelf.Strconv.Itoa0
import Derived.Shelf.Sort.Plain
import Derived.Ground.Names2Prog
import Derived.Shelf.Slices.CompactI
import Derived.Shelf.Slices.SearchI
import Derived.Shelf.Slices.Cells
import Derived.Shelf.Slices.In.SortNone
import Derived.Shelf.Slices.Empties
import Derived.Test.YtbinoelbjlgjkaaDoorProg
import Derived.Test.YtbinoelbjlgjkaaDoorC03
namespace Go.Proofs
open Go.Shelf
def Tryd.lays128_ren : Go.Shelf.Ren := ⟨fun | 128 => 74 | n => n, fun | 51 => 117 | 3 => 3 | 4 => 4 | 46 => 105 | 5 => 5 | 9 => 9 | n => n, fun | n => n⟩
theorem Tryd.lays128 : Go.Proofs.Lays.n128 Tryd.prog Tryd.lays128_ren := {
  mixed := by kernel_rfl
  f128 := Tryd.func74.trans (congrArg some (by kernel_rfl))
  t3 := Tryd.underlying3
  a3 := Tryd.isAgg3
  z3 := Tryd.sizeOf3
  v3 := Tryd.zeroValue3
  t4 := Tryd.underlying4
  a4 := Tryd.isAgg4
  z4 := Tryd.sizeOf4
  v4 := Tryd.zeroValue4
  t5 := Tryd.underlying5
  a5 := Tryd.isAgg5
  z5 := Tryd.sizeOf5
  v5 := Tryd.zeroValue5
  t9 := Tryd.underlying9
  a9 := Tryd.isAgg9
  z9 := Tryd.sizeOf9
  v9 := Tryd.zeroValue9
  t46 := Tryd.underlying105
  a46 := Tryd.isAgg105
  z46 := Tryd.sizeOf105
  v46 := Tryd.zeroValue105
  t51 := Tryd.underlying117
  a51 := Tryd.isAgg117
  z51 := Tryd.sizeOf117
  v51 := Tryd.zeroValue117 }
/-- bits.Len32: "Len32 returns the minimum number of bits required to represent x; the result is 0 for x == 0.": IT RETURNS 'Lib.bitLen x'; the world is as it was. ('h0', 'h1': x is a uint32.) (LAID: no walk: one application.) -/
theorem Tryd.bits_Len32 (x : Int) (w : World) (h0 : 0 ≤ x) (h1 : x ≤ 4294967295) :
    Calls Tryd.prog 74 #[.int .u32 x] w fun e w' => e = .returned (.int .i64 (Lib.bitLen x.toNat)) ∧ w' = w := Any.bits_Len32 Tryd.lays128 x w h0 h1
def Tryd.lays125_ren : Go.Shelf.Ren := ⟨fun | 125 => 64 | 128 => 74 | 129 => 75 | n => n, fun | 46 => 105 | 3 => 3 | 51 => 117 | 53 => 119 | 4 => 4 | 5 => 5 | 9 => 9 | n => n, fun | n => n⟩
theorem Tryd.lays125 : Go.Proofs.Lays.n125 Tryd.prog Tryd.lays125_ren := {
  mixed := by kernel_rfl
  f125 := Tryd.func64.trans (congrArg some (by kernel_rfl))
  f128 := Tryd.func74.trans (congrArg some (by kernel_rfl))
  f129 := Tryd.func75.trans (congrArg some (by kernel_rfl))
  t3 := Tryd.underlying3
  a3 := Tryd.isAgg3
  z3 := Tryd.sizeOf3
  v3 := Tryd.zeroValue3
  t4 := Tryd.underlying4
  a4 := Tryd.isAgg4
  z4 := Tryd.sizeOf4
  v4 := Tryd.zeroValue4
  t5 := Tryd.underlying5
  a5 := Tryd.isAgg5
  z5 := Tryd.sizeOf5
  v5 := Tryd.zeroValue5
  t9 := Tryd.underlying9
  a9 := Tryd.isAgg9
  z9 := Tryd.sizeOf9
  v9 := Tryd.zeroValue9
  t46 := Tryd.underlying105
  a46 := Tryd.isAgg105
  z46 := Tryd.sizeOf105
  v46 := Tryd.zeroValue105
  t51 := Tryd.underlying117
  a51 := Tryd.isAgg117
  z51 := Tryd.sizeOf117
  v51 := Tryd.zeroValue117
  t53 := Tryd.underlying119
  a53 := Tryd.isAgg119
  z53 := Tryd.sizeOf119
  v53 := Tryd.zeroValue119 }
/-- bits.Len: "Len returns the minimum number of bits required to represent x; the result is 0 for x == 0.": IT RETURNS 'Lib.bitLen x'; the world is as it was. (A uint has 64 bits in the model.) ITS CALLEE bits.Len64 IS MET BY ITS OWN CONTRACT OFF THE SHELF (lay that first). (LAID: no walk: one application.) -/
theorem Tryd.bits_Len (x : Int) (w : World) (h0 : 0 ≤ x) (h1 : x ≤ 18446744073709551615) :
    Calls Tryd.prog 64 #[.int .u64 x] w fun e w' => e = .returned (.int .i64 (Lib.bitLen x.toNat)) ∧ w' = w := Any.bits_Len Tryd.lays125 x w h0 h1
def Tryd.lays215_ren : Go.Shelf.Ren := ⟨fun | 215 => 65 | n => n, fun | 3 => 3 | 4 => 4 | n => n, fun | n => n⟩
theorem Tryd.lays215 : Go.Proofs.Lays.n215 Tryd.prog Tryd.lays215_ren := {
  mixed := by kernel_rfl
  f215 := Tryd.func65.trans (congrArg some (by kernel_rfl))
  t3 := Tryd.underlying3
  a3 := Tryd.isAgg3
  z3 := Tryd.sizeOf3
  v3 := Tryd.zeroValue3
  t4 := Tryd.underlying4
  a4 := Tryd.isAgg4
  z4 := Tryd.sizeOf4
  v4 := Tryd.zeroValue4 }
open Go.RowKit in
/-- cmp.isNaN at int: 'x != x': false. (LAID: no walk: one application.) -/
theorem Tryd.cmp_isNaN_int (x : Int) (w : World) :
    Calls Tryd.prog 65 #[.int .i64 x] w fun e w' => e = .returned (.bool false) ∧ w' = w := Any.cmp_isNaN_int Tryd.lays215 x w
def Tryd.lays129_ren : Go.Shelf.Ren := ⟨fun | 129 => 75 | n => n, fun | 53 => 119 | 3 => 3 | 4 => 4 | 46 => 105 | 5 => 5 | 9 => 9 | n => n, fun | n => n⟩
theorem Tryd.lays129 : Go.Proofs.Lays.n129 Tryd.prog Tryd.lays129_ren := {
  mixed := by kernel_rfl
  f129 := Tryd.func75.trans (congrArg some (by kernel_rfl))
  t3 := Tryd.underlying3
  a3 := Tryd.isAgg3
  z3 := Tryd.sizeOf3
  v3 := Tryd.zeroValue3
  t4 := Tryd.underlying4
  a4 := Tryd.isAgg4
  z4 := Tryd.sizeOf4
  v4 := Tryd.zeroValue4
  t5 := Tryd.underlying5
  a5 := Tryd.isAgg5
  z5 := Tryd.sizeOf5
  v5 := Tryd.zeroValue5
  t9 := Tryd.underlying9
  a9 := Tryd.isAgg9
  z9 := Tryd.sizeOf9
  v9 := Tryd.zeroValue9
  t46 := Tryd.underlying105
  a46 := Tryd.isAgg105
  z46 := Tryd.sizeOf105
  v46 := Tryd.zeroValue105
  t53 := Tryd.underlying119
  a53 := Tryd.isAgg119
  z53 := Tryd.sizeOf119
  v53 := Tryd.zeroValue119 }
/-- bits.Len64: "Len64 returns the minimum number of bits required to represent x; the result is 0 for x == 0.": IT RETURNS 'Lib.bitLen x'; the world is as it was. ('h0', 'h1': x is a uint64.) (LAID: no walk: one application.) -/
theorem Tryd.bits_Len64 (x : Int) (w : World) (h0 : 0 ≤ x) (h1 : x ≤ 18446744073709551615) :
    Calls Tryd.prog 75 #[.int .u64 x] w fun e w' => e = .returned (.int .i64 (Lib.bitLen x.toNat)) ∧ w' = w := Any.bits_Len64 Tryd.lays129 x w h0 h1
def Tryd.lays189_ren : Go.Shelf.Ren := ⟨fun | 189 => 58 | 125 => 64 | 257 => 63 | 128 => 74 | 129 => 75 | 294 => 66 | 295 => 67 | 296 => 68 | 297 => 69 | 298 => 70 | 299 => 71 | 216 => 60 | 300 => 72 | 301 => 73 | 328 => 76 | 329 => 77 | 330 => 78 | 331 => 79 | 332 => 80 | 215 => 65 | 343 => 81 | n => n, fun | 28 => 66 | 3 => 3 | 46 => 105 | 0 => 0 | 51 => 117 | 53 => 119 | 4 => 4 | 183 => 111 | 182 => 110 | 131 => 60 | 5 => 5 | 9 => 9 | 218 => 120 | 222 => 124 | 228 => 126 | 229 => 127 | n => n, fun | n => n⟩
theorem Tryd.lays189 : Go.Proofs.Lays.n189 Tryd.prog Tryd.lays189_ren := {
  mixed := by kernel_rfl
  f125 := Tryd.func64.trans (congrArg some (by kernel_rfl))
  f128 := Tryd.func74.trans (congrArg some (by kernel_rfl))
  f129 := Tryd.func75.trans (congrArg some (by kernel_rfl))
  f189 := Tryd.func58.trans (congrArg some (by kernel_rfl))
  f215 := Tryd.func65.trans (congrArg some (by kernel_rfl))
  f216 := Tryd.func60.trans (congrArg some (by kernel_rfl))
  f257 := Tryd.func63.trans (congrArg some (by kernel_rfl))
  f294 := Tryd.func66.trans (congrArg some (by kernel_rfl))
  f295 := Tryd.func67.trans (congrArg some (by kernel_rfl))
  f296 := Tryd.func68.trans (congrArg some (by kernel_rfl))
  f297 := Tryd.func69.trans (congrArg some (by kernel_rfl))
  f298 := Tryd.func70.trans (congrArg some (by kernel_rfl))
  f299 := Tryd.func71.trans (congrArg some (by kernel_rfl))
  f300 := Tryd.func72.trans (congrArg some (by kernel_rfl))
  f301 := Tryd.func73.trans (congrArg some (by kernel_rfl))
  f328 := Tryd.func76.trans (congrArg some (by kernel_rfl))
  f329 := Tryd.func77.trans (congrArg some (by kernel_rfl))
  f330 := Tryd.func78.trans (congrArg some (by kernel_rfl))
  f331 := Tryd.func79.trans (congrArg some (by kernel_rfl))
  f332 := Tryd.func80.trans (congrArg some (by kernel_rfl))
  f343 := Tryd.func81.trans (congrArg some (by kernel_rfl))
  t0 := Tryd.underlying0
  a0 := Tryd.isAgg0
  z0 := Tryd.sizeOf0
  v0 := Tryd.zeroValue0
  t3 := Tryd.underlying3
  a3 := Tryd.isAgg3
  z3 := Tryd.sizeOf3
  v3 := Tryd.zeroValue3
  t4 := Tryd.underlying4
  a4 := Tryd.isAgg4
  z4 := Tryd.sizeOf4
  v4 := Tryd.zeroValue4
  t5 := Tryd.underlying5
  a5 := Tryd.isAgg5
  z5 := Tryd.sizeOf5
  v5 := Tryd.zeroValue5
  t9 := Tryd.underlying9
  a9 := Tryd.isAgg9
  z9 := Tryd.sizeOf9
  v9 := Tryd.zeroValue9
  t28 := Tryd.underlying66
  a28 := Tryd.isAgg66
  z28 := Tryd.sizeOf66
  v28 := Tryd.zeroValue66
  t46 := Tryd.underlying105
  a46 := Tryd.isAgg105
  z46 := Tryd.sizeOf105
  v46 := Tryd.zeroValue105
  t51 := Tryd.underlying117
  a51 := Tryd.isAgg117
  z51 := Tryd.sizeOf117
  v51 := Tryd.zeroValue117
  t53 := Tryd.underlying119
  a53 := Tryd.isAgg119
  z53 := Tryd.sizeOf119
  v53 := Tryd.zeroValue119
  t131 := Tryd.underlying60
  a131 := Tryd.isAgg60
  z131 := Tryd.sizeOf60
  v131 := Tryd.zeroValue60
  t182 := Tryd.underlying110
  a182 := Tryd.isAgg110
  z182 := Tryd.sizeOf110
  v182 := Tryd.zeroValue110
  t183 := Tryd.underlying111
  a183 := Tryd.isAgg111
  z183 := Tryd.sizeOf111
  v183 := Tryd.zeroValue111
  t218 := Tryd.underlying120
  a218 := Tryd.isAgg120
  z218 := Tryd.sizeOf120
  v218 := Tryd.zeroValue120
  t222 := Tryd.underlying124
  a222 := Tryd.isAgg124
  z222 := Tryd.sizeOf124
  v222 := Tryd.zeroValue124
  t228 := Tryd.underlying126
  a228 := Tryd.isAgg126
  z228 := Tryd.sizeOf126
  v228 := Tryd.zeroValue126
  t229 := Tryd.underlying127
  a229 := Tryd.isAgg127
  z229 := Tryd.sizeOf127
  v229 := Tryd.zeroValue127 }
open Go.Sort Go.RowKit in
theorem Tryd.slices_Sort_int (blk off cap : Nat) (zs : List Int) (w : World) (hH : Holds (Value.int .i64) w blk off zs.toArray) (hblk : blk < w.heap.size) (hsz : zs.length < 4611686018427387904) :
    Calls Tryd.prog 58 #[.slice (some ⟨blk, off, none⟩) zs.length cap] w fun e w' =>
      e = .returned (.tuple #[]) ∧ ∃ n os, w' = grow (putRow (Value.int .i64) (Sort.ahead w n) blk off (zs.mergeSort fun x y => decide (x ≤ y)).toArray) os := Any.slices_Sort_int Tryd.lays189 blk off cap zs w hH hblk hsz
def Tryd.laysNm220_ren : Go.Shelf.Ren := ⟨fun | 20 => 59 | n => n, fun | 22 => 66 | 3 => 3 | 4 => 4 | 0 => 0 | n => n, fun | n => n⟩
theorem Tryd.laysNm220 : Go.Proofs.Lays2.n20 Tryd.prog Tryd.laysNm220_ren := {
  mixed := by kernel_rfl
  f20 := Tryd.func59.trans (congrArg some (by kernel_rfl))
  t0 := Tryd.underlying0
  a0 := Tryd.isAgg0
  z0 := Tryd.sizeOf0
  v0 := Tryd.zeroValue0
  t3 := Tryd.underlying3
  a3 := Tryd.isAgg3
  z3 := Tryd.sizeOf3
  v3 := Tryd.zeroValue3
  t4 := Tryd.underlying4
  a4 := Tryd.isAgg4
  z4 := Tryd.sizeOf4
  v4 := Tryd.zeroValue4
  t22 := Tryd.underlying66
  a22 := Tryd.isAgg66
  z22 := Tryd.sizeOf66
  v22 := Tryd.zeroValue66
  i3 := by kernel_rfl }
open Go.RowKit Go.Lib Go.Sort in
/-- slices.Compact at []int, over an array: the library's two loops are walked. (LAID: no walk: one application.) -/
theorem Tryd.slices_Compact_int_arr (blk off cap : Nat) (d : Array Int) (w : World) (hH : Holds encI w blk off d) (hsz : d.size ≤ 9223372036854775807) (hcap : d.size ≤ cap) :
    Calls Tryd.prog 59 #[.slice (some ⟨blk, off, none⟩) d.size cap] w fun e w' => e = .returned (.slice (some ⟨blk, off, none⟩) (compactUpTo d d.size).length cap) ∧ ∃ q, w' = putRow encI (Sort.ahead w q) blk off (compactUpTo d d.size ++ List.replicate (d.size - (compactUpTo d d.size).length) 0).toArray := Any.slices_Compact_int_arr Tryd.laysNm220 blk off cap d w hH hsz hcap
open Go.RowKit Go.Lib Go.Sort in
/-- slices.Compact at []int: "Compact replaces consecutive runs of equal elements with a single copy. This is like the uniq command found on Unix. Compact modifies the contents of the slice s and returns the modified slice, which may have a smaller length. Compact zeroes the elements between the new length and the original length. The result preserves the nilness of s.": IT RETURNS THE SLICE CUT TO 'Lib.compact zs'; ITS CELLS HOLD 'Lib.compact zs', THEN ZERO VALUES up to the old length; all else is as it was, but for the count of draws. IN THE WORDS OF slices.Sort's CONTRACT ('Holds', 'putRow'): so the everyday 'slices.Sort(xs); xs = slices.Compact(xs)' goes from the one contract to the other. It asks 'zs.length ≤ cap' (every slice's: the reslicing 's[:k]' looks at it). Length 0, nil: '.._empty'. (LAID: no walk: one application.) -/
theorem Tryd.slices_Compact_int (blk off cap : Nat) (zs : List Int) (w : World) (hH : Holds (Value.int .i64) w blk off zs.toArray) (hsz : zs.length ≤ 9223372036854775807) (hcap : zs.length ≤ cap) :
    Calls Tryd.prog 59 #[.slice (some ⟨blk, off, none⟩) zs.length cap] w fun e w' => e = .returned (.slice (some ⟨blk, off, none⟩) (Lib.compact zs).length cap) ∧ ∃ q, w' = putRow (Value.int .i64) (Sort.ahead w q) blk off (Lib.compact zs ++ List.replicate (zs.length - (Lib.compact zs).length) 0).toArray := Any.slices_Compact_int Tryd.laysNm220 blk off cap zs w hH hsz hcap
open Go.RowKit Go.Lib Go.Sort in
/-- The same at a slice of length 0, a nil one too: it comes back as it is. (LAID: no walk: one application.) -/
theorem Tryd.slices_Compact_int_empty (a : Option Addr) (cap : Nat) (w : World) :
    Calls Tryd.prog 59 #[.slice a 0 cap] w fun e w' => e = .returned (.slice a 0 cap) ∧ w' = w := Any.slices_Compact_int_empty Tryd.laysNm220 a cap w
def Tryd.laysNm237_ren : Go.Shelf.Ren := ⟨fun | 37 => 65 | n => n, fun | 3 => 3 | 4 => 4 | n => n, fun | n => n⟩
theorem Tryd.laysNm237 : Go.Proofs.Lays2.n37 Tryd.prog Tryd.laysNm237_ren := {
  mixed := by kernel_rfl
  f37 := Tryd.func65.trans (congrArg some (by kernel_rfl))
  t3 := Tryd.underlying3
  a3 := Tryd.isAgg3
  z3 := Tryd.sizeOf3
  v3 := Tryd.zeroValue3
  t4 := Tryd.underlying4
  a4 := Tryd.isAgg4
  z4 := Tryd.sizeOf4
  v4 := Tryd.zeroValue4 }
open Go.RowKit Go.Lib in
/-- cmp.isNaN[int]: 'x != x': false. (LAID: no walk: one application.) -/
theorem Tryd.cmp_isNaN_int2 (x : Int) (w : World) :
    Calls Tryd.prog 65 #[.int .i64 x] w fun e w' => e = .returned (.bool false) ∧ w' = w := Any.cmp_isNaN_int2 Tryd.laysNm237 x w
def Tryd.laysNm232_ren : Go.Shelf.Ren := ⟨fun | 32 => 61 | n => n, fun | 3 => 3 | 4 => 4 | n => n, fun | n => n⟩
theorem Tryd.laysNm232 : Go.Proofs.Lays2.n32 Tryd.prog Tryd.laysNm232_ren := {
  mixed := by kernel_rfl
  f32 := Tryd.func61.trans (congrArg some (by kernel_rfl))
  t3 := Tryd.underlying3
  a3 := Tryd.isAgg3
  z3 := Tryd.sizeOf3
  v3 := Tryd.zeroValue3
  t4 := Tryd.underlying4
  a4 := Tryd.isAgg4
  z4 := Tryd.sizeOf4
  v4 := Tryd.zeroValue4 }
open Go.RowKit Go.Lib in
/-- slices.isNaN[int]: 'x != x': false. (LAID: no walk: one application.) -/
theorem Tryd.slices_isNaN_int2 (x : Int) (w : World) :
    Calls Tryd.prog 61 #[.int .i64 x] w fun e w' => e = .returned (.bool false) ∧ w' = w := Any.slices_isNaN_int2 Tryd.laysNm232 x w
def Tryd.laysNm231_ren : Go.Shelf.Ren := ⟨fun | 31 => 60 | 37 => 65 | n => n, fun | 3 => 3 | 4 => 4 | n => n, fun | n => n⟩
theorem Tryd.laysNm231 : Go.Proofs.Lays2.n31 Tryd.prog Tryd.laysNm231_ren := {
  mixed := by kernel_rfl
  f31 := Tryd.func60.trans (congrArg some (by kernel_rfl))
  f37 := Tryd.func65.trans (congrArg some (by kernel_rfl))
  t3 := Tryd.underlying3
  a3 := Tryd.isAgg3
  z3 := Tryd.sizeOf3
  v3 := Tryd.zeroValue3
  t4 := Tryd.underlying4
  a4 := Tryd.isAgg4
  z4 := Tryd.sizeOf4
  v4 := Tryd.zeroValue4 }
open Go.RowKit Go.Lib in
/-- cmp.Less[int]: "Less reports whether x is less than y.": 'x < y'; the world is as it was. (LAID: no walk: one application.) -/
theorem Tryd.cmp_Less_int2 (x y : Int) (w : World) :
    Calls Tryd.prog 60 #[.int .i64 x, .int .i64 y] w fun e w' => e = .returned (.bool (decide (x < y))) ∧ w' = w := Any.cmp_Less_int2 Tryd.laysNm231 x y w
def Tryd.laysNm225_ren : Go.Shelf.Ren := ⟨fun | 25 => 53 | 31 => 60 | 32 => 61 | 37 => 65 | n => n, fun | 22 => 66 | 3 => 3 | 4 => 4 | 40 => 105 | 0 => 0 | n => n, fun | n => n⟩
theorem Tryd.laysNm225 : Go.Proofs.Lays2.n25 Tryd.prog Tryd.laysNm225_ren := {
  mixed := by kernel_rfl
  f25 := Tryd.func53.trans (congrArg some (by kernel_rfl))
  f31 := Tryd.func60.trans (congrArg some (by kernel_rfl))
  f32 := Tryd.func61.trans (congrArg some (by kernel_rfl))
  f37 := Tryd.func65.trans (congrArg some (by kernel_rfl))
  t0 := Tryd.underlying0
  a0 := Tryd.isAgg0
  z0 := Tryd.sizeOf0
  v0 := Tryd.zeroValue0
  t3 := Tryd.underlying3
  a3 := Tryd.isAgg3
  z3 := Tryd.sizeOf3
  v3 := Tryd.zeroValue3
  t4 := Tryd.underlying4
  a4 := Tryd.isAgg4
  z4 := Tryd.sizeOf4
  v4 := Tryd.zeroValue4
  t22 := Tryd.underlying66
  a22 := Tryd.isAgg66
  z22 := Tryd.sizeOf66
  v22 := Tryd.zeroValue66
  t40 := Tryd.underlying105
  a40 := Tryd.isAgg105
  z40 := Tryd.sizeOf105
  v40 := Tryd.zeroValue105 }
open Go.RowKit Go.Lib in
/-- slices.BinarySearch at []int: "BinarySearch searches for target in a sorted slice and returns the earliest position where target is found, or the position where target would appear in the sort order; it also returns a bool saying whether the target is really found in the slice. The slice must be sorted in increasing order.": OF A SORTED SLICE IT RETURNS how many elements are less than the target, and whether the target is among the elements; the world is as it was but for the count of draws. 'zs': what the cells behind the slice's address hold; 'zs.take n': its elements. (Of a slice that is not sorted: no contract here.) (LAID: no walk: one application.) -/
theorem Tryd.slices_BinarySearch_int (b off n c : Nat) (zs : List Int) (x : Int) (w : World) (hz : n ≤ zs.length) (hbig : n < 4611686018427387904) (hc : ∀ j, j < zs.length → w.cell? ⟨b, off + j, none⟩ = some (.int .i64 (zs.getD j 0))) (hs : (zs.take n).Pairwise (· ≤ ·)) :
    Calls Tryd.prog 53 #[.slice (some ⟨b, off, none⟩) n c, .int .i64 x] w fun e w' => e = .returned (.tuple #[.int .i64 ((zs.take n).countP (· < x) : Nat), .bool ((zs.take n).contains x)]) ∧ ∃ q, w' = w.drewN q := Any.slices_BinarySearch_int Tryd.laysNm225 b off n c zs x w hz hbig hc hs
open Go.RowKit Go.Lib Go.Sort in
/-- slices.Compact at []int, of an argument: the slice cut to 'Lib.compact (elements)'; the n cells hold that, then zeros. (LAID: no walk: one application.) -/
theorem Tryd.slices_Compact_int_cells (b off n c : Nat) (zs : List Int) (w : World) (hz : n ≤ zs.length) (hbig : n ≤ 9223372036854775807) (hcap : n ≤ c) (hc : ∀ j, j < zs.length → w.cell? ⟨b, off + j, none⟩ = some (.int .i64 (zs.getD j 0))) (hf : ∀ j, j < n → w.frozen? ⟨b, off + j, none⟩ = false) :
    Calls Tryd.prog 59 #[.slice (some ⟨b, off, none⟩) n c] w fun e w' => e = .returned (.slice (some ⟨b, off, none⟩) (Lib.compact (zs.take n)).length c) ∧ ∃ q, w' = (w.drewN q).setCells b off ((Lib.compact (zs.take n) ++ List.replicate (n - (Lib.compact (zs.take n)).length) 0).map (Value.int .i64)) := Any.slices_Compact_int_cells Tryd.laysNm220 b off n c zs w hz hbig hcap hc hf
open Go.RowKit Go.Sort in
/-- .. and plain. (LAID: no walk: one application.) -/
theorem Tryd.slices_Sort_int_none (p : Option Addr) (cap : Nat) (w : World) :
    Calls Tryd.prog 58 #[.slice p 0 cap] w fun e w' => e = .returned (.tuple #[]) ∧ w' = w := Any.slices_Sort_int_none Tryd.lays189 p cap w
open Go.RowKit Go.Lib in
/-- slices.BinarySearch at []int of no element: position 0, not found; the world is as it was. (LAID: no walk: one application.) -/
theorem Tryd.slices_BinarySearch_int_empty (a : Option Addr) (c : Nat) (x : Int) (w : World) :
    Calls Tryd.prog 53 #[.slice a 0 c, .int .i64 x] w fun e w' => e = .returned (.tuple #[.int .i64 0, .bool false]) ∧ w' = w := Any.slices_BinarySearch_int_empty Tryd.laysNm225 a c x w
end Go.Proofs
namespace Go.Proofs.YtbinoelbjlgjkaaDoor
open Go Go.RowKit Go.Maps Go.WideMaps

/-- The day of a holiday in a year; none: the year has none. -/
def Cal.onS (h : Hol) (y : Int) : Option Int :=
  if h.kind = 0 then (if h.day ≤ Cal.mlen y h.month then some (Cal.first y h.month + h.day - 1) else none)
  else if h.kind = 1 then some (Cal.easter y + h.day)
  else if 0 < h.day then some (Cal.first y h.month + (h.weekday - (Cal.first y h.month + 2) % 7 + 7) % 7 + 7 * (h.day - 1))
  else some (Cal.first y h.month + Cal.mlen y h.month - 1 - (Cal.first y h.month + Cal.mlen y h.month - 1 - (Cal.first y h.month + (h.weekday - (Cal.first y h.month + 2) % 7 + 7) % 7)) % 7)
def Cal.hols (l : List Hol) (y : Int) : List Int := l.filterMap fun h => Cal.onS h y
def Cal.worksB (l : List Hol) (d : Int) : Bool := decide ((d + 2) % 7 ≤ 4) && !(Cal.hols l (Cal.dY d)).contains d
/-- zs are the holidays of a year, ascending, each once. -/
def HolsAre (zs : List Int) (l : List Hol) (y : Int) : Prop := zs.Pairwise (· < ·) ∧ ∀ d, d ∈ zs ↔ d ∈ Cal.hols l y
/-- A slice of the call's own (its block from B on) that reads as numbers. -/
def SliceOf (W : World) (B : Nat) (v : Value) (zs : List Int) : Prop :=
  ∃ A c, v = .slice A zs.length c ∧ zs.length ≤ 1000000 ∧ (zs ≠ [] → ∃ g cs t, A = some ⟨g, 0, none⟩ ∧ B ≤ g ∧ W.heap[g]? = some (.cells cs t (0, 0)) ∧ ∀ (j : Nat) x, zs[j]? = some x → cs[j]? = some (.int .i64 x))
theorem SliceOf.keep {W W' : World} {B : Nat} {v : Value} {zs : List Int} (h : SliceOf W B v zs) (hk : ∀ (g : Nat) cs t, B ≤ g → W.heap[g]? = some (.cells cs t (0, 0)) → W'.heap[g]? = some (.cells cs t (0, 0))) : SliceOf W' B v zs := by
  obtain ⟨A, c, hv, hz, h⟩ := h
  exact ⟨A, c, hv, hz, fun hne => by obtain ⟨g, cs, t, h1, h2, h3, h4⟩ := h hne; exact ⟨g, cs, t, h1, h2, hk g cs t h2 h3, h4⟩⟩
theorem SliceOf.below {W W' : World} {B : Nat} {v : Value} {zs : List Int} (h : SliceOf W B v zs) (hb : Below W.heap.size W W') : SliceOf W' B v zs :=
  h.keep fun g _ _ _ hg => (hb.block g (Array.getElem?_eq_some_iff.1 hg).1).trans hg
theorem SliceOf.less {W : World} {B B' : Nat} {v : Value} {zs : List Int} (h : SliceOf W B v zs) (hB : B' ≤ B) : SliceOf W B' v zs := by
  obtain ⟨A, c, hv, hz, h⟩ := h
  exact ⟨A, c, hv, hz, fun hne => by obtain ⟨g, cs, t, h1, h2, h3, h4⟩ := h hne; exact ⟨g, cs, t, h1, by omega, h3, h4⟩⟩
theorem SliceOf.cells {W : World} {B : Nat} {v : Value} {zs : List Int} (h : SliceOf W B v zs) (hne : zs ≠ []) : ∃ g c, v = .slice (some ⟨g, 0, none⟩) zs.length c ∧ zs.length ≤ 1000000 ∧ ∀ j, j < zs.length → W.cell? ⟨g, 0 + j, none⟩ = some (.int .i64 (zs.getD j 0)) := by
  obtain ⟨A, c, hv, hz, h⟩ := h
  obtain ⟨g, cs, t, rfl, _, h3, h4⟩ := h hne
  refine ⟨g, c, hv, hz, fun j hj => ?_⟩
  have := h4 j zs[j] (List.getElem?_eq_getElem hj)
  rw [cell_of_row W g (0 + j) cs t (0, 0) h3, Nat.zero_add, this]
  simp [List.getD, hj]
def HolPost (W : World) (l : List Hol) (y : Int) (e : Ending) (W' : World) : Prop := ∃ v zs, e = .returned v ∧ SliceOf W' W.heap.size v zs ∧ HolsAre zs l y ∧ Below W.heap.size W W'
/-- What is asked of holidaysOf at a list. -/
def HolCalls (A : Option Addr) (c : Nat) (l : List Hol) : Prop := ∀ (y : Int) (W : World), 1800 ≤ y → y ≤ 2347 → Hols W A l → Tab W → Calls Tryd.prog 52 #[.slice A l.length c, .int .i64 y] W (HolPost W l y)
def intLit (x : Int) : Lit := .int .i64 x
theorem intLit_inj (x y : Int) (h : intLit x = intLit y) : x = y := by unfold intLit at h; cases h; rfl
def CacheOk (W : World) (B m n : Nat) (l : List Hol) : Prop := ∃ f : Int → Option Value, MapIs Tryd.prog 3 intLit W m n f ∧ ∀ y v, f y = some v → ∃ zs, SliceOf W B v zs ∧ HolsAre zs l y
theorem slZero (w : World) : (zeroValue 66).run Tryd.prog w = .ok (.slice none 0 0) w := by kernel_rfl
theorem CacheOk.keep {W W' : World} {B m n : Nat} {l : List Hol} (h : CacheOk W B m n l) (hm : W'.heap[m]? = W.heap[m]?) (hk : ∀ (g : Nat) cs t, B ≤ g → W.heap[g]? = some (.cells cs t (0, 0)) → W'.heap[g]? = some (.cells cs t (0, 0))) : CacheOk W' B m n l := by
  obtain ⟨f, h1, h2⟩ := h
  exact ⟨f, h1.same hm, fun y v hv => by obtain ⟨zs, a, b⟩ := h2 y v hv; exact ⟨zs, a.keep hk, b⟩⟩
theorem CacheOk.below {W W' : World} {B m n : Nat} {l : List Hol} (h : CacheOk W B m n l) (hb : Below W.heap.size W W') : CacheOk W' B m n l := by
  obtain ⟨f, h1, h2⟩ := h
  exact ⟨f, h1.below hb h1.lt, fun y v hv => by obtain ⟨zs, a, b⟩ := h2 y v hv; exact ⟨zs, a.below hb, b⟩⟩
theorem CacheOk.mono {W : World} {B m n n' : Nat} {l : List Hol} (h : CacheOk W B m n l) (hn : n ≤ n') : CacheOk W B m n' l := by
  obtain ⟨f, h1, h2⟩ := h; exact ⟨f, h1.mono hn, h2⟩
/-- The calendar in memory. -/
structure Calend (W : World) (cb m : Nat) (A : Option Addr) (c : Nat) (l : List Hol) : Prop where
  c0 : W.cell? ⟨cb, 0, none⟩ = some (.slice A l.length c)
  c1 : W.cell? ⟨cb, 1, none⟩ = some (.map (some m))
  lt : cb < W.heap.size
  hols : Hols W A l
  tab : Tab W
theorem field_date0 (x y z : Int) (w : World) : (Instr.field 83 (.agg #[.int .i64 x, .int .i64 y, .int .i64 z]) 0).run Tryd.prog w = .ok (.int .i64 x) w := by kernel_rfl
def WorksPost (W : World) (B m n : Nat) (l : List Hol) (d : Int) (e : Ending) (W' : World) : Prop := e = .returned (.bool (Cal.worksB l d)) ∧ W.grownBy W' (some m) ∧ CacheOk W' B m (n + 1) l
theorem HolsAre.contains {zs : List Int} {l : List Hol} {y : Int} (h : HolsAre zs l y) (d : Int) : zs.contains d = (Cal.hols l y).contains d := by
  rw [Bool.eq_iff_iff]; simp only [List.contains_iff_mem]; exact h.2 d
theorem HolsAre.sorted {zs : List Int} {l : List Hol} {y : Int} (h : HolsAre zs l y) : zs.Pairwise (· ≤ ·) := h.1.imp fun h => by omega
theorem grownBy_below {W W' : World} {row : Option Nat} (h : Below W.heap.size W W') : W.grownBy W' row := ⟨h.os, h.tape, h.output, h.size, fun i hi _ => h.block i hi⟩
theorem grownBy_drewN {W W' : World} {row : Option Nat} (h : W.grownBy W' row) (n : Nat) : W.grownBy (W'.drewN n) row := ⟨h.os, h.tape, h.output, h.size, h.block⟩
theorem grownBy_trans {a b c : World} {row : Option Nat} (h : a.grownBy b row) (k : b.grownBy c row) : a.grownBy c row :=
  ⟨k.os.trans h.os, k.tape.trans h.tape, k.output.trans h.output, Nat.le_trans h.size k.size, fun i hi hne => (k.block i (Nat.lt_of_lt_of_le hi h.size) hne).trans (h.block i hi hne)⟩
/-- BinarySearch of a day in a list of holidays. -/
theorem search_any (W : World) (B : Nat) (v : Value) (zs : List Int) (l : List Hol) (y d : Int) (h : SliceOf W B v zs) (hz : HolsAre zs l y) :
    Calls Tryd.prog 53 #[v, .int .i64 d] W fun e W' => ∃ k : Int, e = .returned (.tuple #[.int .i64 k, .bool ((Cal.hols l y).contains d)]) ∧ ∃ q, W' = W.drewN q := by
  rw [← hz.contains d]
  by_cases hne : zs = []
  · subst hne
    obtain ⟨A, c, rfl, _, _⟩ := h
    exact (Tryd.slices_BinarySearch_int_empty A c d W).mono fun e W' ⟨he, hw⟩ => ⟨0, by rw [he]; rfl, 0, hw⟩
  · obtain ⟨g, c, rfl, hsz, hc⟩ := h.cells hne
    have hs := hz.sorted
    refine (Tryd.slices_BinarySearch_int g 0 zs.length c zs d W (Nat.le_refl _) (by omega) hc (by rw [List.take_length]; exact hs)).mono fun e W' hq => ?_
    obtain ⟨he, q, hw⟩ := hq
    rw [List.take_length] at he
    exact ⟨_, he, q, hw⟩

set_option maxRecDepth 100000 in
set_option maxHeartbeats 1000000 in
theorem works_any (cb m : Nat) (A : Option Addr) (c : Nat) (l : List Hol) (hHol : HolCalls A c l) (day : Int) (y0 : 0 ≤ day) (y1 : day ≤ 200000) (B n : Nat) (W : World) (hcal : Calend W cb m A c l) (hca : CacheOk W B m n l) (hn : n ≤ 1000000) (hB : B ≤ W.heap.size) :
    Calls Tryd.prog 44 #[.pointer (some ⟨cb, 0, none⟩), .int .i64 day] W (WorksPost W B m n l day) := by
  by_cases hwd : (day + 2) % 7 ≤ 4
  · obtain ⟨dy0, dy1⟩ := Cal.dY_bd day y0 y1
    have hwd' := Lib.hid hwd
    have hT := Lib.hid hcal.tab
    have hlt := hcal.lt
    have hc0 := hcal.c0
    have hc1 := hcal.c1
    have hmlt : m < W.heap.size := by obtain ⟨f, h, _⟩ := hca; exact h.lt
    have hfin : ∀ b : Bool, (Cal.hols l (Cal.dY day)).contains day = b → Cal.worksB l day = !b := fun b h => by unfold Cal.worksB; rw [h]; simp [hwd]
    have hfin := Lib.hid hfin
    have hHol := Lib.hid hHol
    have hfld := fun w => field_date0 (Cal.dY day) (Cal.dM day) (Cal.dD day) w
    have hcal' := Lib.hid hcal
    clear hcal
    obtain ⟨f, hmap, hf⟩ := hca
    cases hv : f (Cal.dY day) with
    | some v =>
      obtain ⟨zs, hsl, hzs⟩ := hf _ _ hv
      have hlook := fun (w1 : World) (h1 : Below W.heap.size W w1) => (hmap.below h1 hmlt).look_ok (int_keyed Tryd.underlying3) Tryd.underlying77 (slZero _) (key := .int .i64 (Cal.dY day)) (kl := Cal.dY day) (keyOf_int_mk Tryd.underlying3 (WalkArith.wf_i64 (by omega)))
      rw [hv] at hlook
      have hlook := Lib.hid hlook
      have hall := Lib.hid (And.intro hmap (And.intro hf (And.intro hsl hzs)))
      clear hmap hf hsl hzs hv
      go_enter Tryd.func44, Tryd.ntmps44
      go_wp2_with (first | (go_at_call 51; refine (weekday_any _ (by omega) (by omega) _).mono ?_; rintro e w' ⟨rfl, rfl⟩) | (go_at_call 34; refine (dateOf_any day y0 y1 _ hT.out).mono ?_; rintro e w1 ⟨rfl, hb1⟩; obtain ⟨hc1', hf1'⟩ := bcell hb1; have hlk := hlook.out w1 hb1))
      obtain ⟨hmap, hf, hsl, hzs⟩ := hall.out
      refine (search_any w1 B v zs l (Cal.dY day) day (hsl.below hb1) hzs).mono ?_
      have hca' := Lib.hid (show CacheOk w1 B m (n + 1) l from (CacheOk.below ⟨f, hmap, hf⟩ hb1).mono (by omega))
      clear hmap hf hsl hzs
      rintro e w2 ⟨k, rfl, q, rfl⟩
      go_wp2
      go_ret
      exact ⟨ret_bool (by rw [hfin.out _ rfl]; simp), grownBy_drewN (grownBy_below hb1) _, hca'.out.keep rfl (fun _ _ _ _ h => h)⟩
    | none =>
      have hlook := fun (w1 : World) (h1 : Below W.heap.size W w1) => (hmap.below h1 hmlt).look_ok (int_keyed Tryd.underlying3) Tryd.underlying77 (slZero _) (key := .int .i64 (Cal.dY day)) (kl := Cal.dY day) (keyOf_int_mk Tryd.underlying3 (WalkArith.wf_i64 (by omega)))
      rw [hv] at hlook
      have hlook := Lib.hid hlook
      have hca' := Lib.hid (show CacheOk W B m n l from ⟨f, hmap, hf⟩)
      have hm' := Lib.hid hmap
      have hf' := Lib.hid hf
      clear hmap hf hv
      go_enter Tryd.func44, Tryd.ntmps44
      go_wp2_with (first | (go_at_call 51; refine (weekday_any _ (by omega) (by omega) _).mono ?_; rintro e w' ⟨rfl, rfl⟩) | (go_at_call 34; refine (dateOf_any day y0 y1 _ hT.out).mono ?_; rintro e w1 ⟨rfl, hb1⟩; obtain ⟨hc1', hf1'⟩ := bcell hb1; have hlk := hlook.out w1 hb1))
      refine (hHol.out (Cal.dY day) w1 dy0 dy1 (hcal'.out.hols.below hb1) (hT.out.below hb1)).mono ?_
      rintro e w2 ⟨v, zs, rfl, hsl, hzs, hb2⟩
      have hb12 := below_step hb1 hb2
      have hs1 := hb1.size
      have hs2 := hb2.size
      obtain ⟨w3, hrun, hm3, hg3, hsz3⟩ := (hm'.out.below hb12 hmlt).store intLit_inj (int_keyed Tryd.underlying3) Tryd.underlying77 (by unfold maxLen; omega) (val := v) (key := .int .i64 (Cal.dY day)) (kl := Cal.dY day) (keyOf_int_mk Tryd.underlying3 (WalkArith.wf_i64 (by omega)))
      have hd1 : w2.cell? ⟨cb, 0, none⟩ = some (.slice A l.length c) := (hb12.cell (p := ⟨cb, 0, none⟩) hlt).trans hc0
      have hd2 : w2.cell? ⟨cb, 1, none⟩ = some (.map (some m)) := (hb12.cell (p := ⟨cb, 1, none⟩) hlt).trans hc1
      have hmapAt := (hm'.out.below hb12 hmlt).isMap
      have hkeep : ∀ (g : Nat) cs t, w2.heap[g]? = some (.cells cs t (0, 0)) → w3.heap[g]? = some (.cells cs t (0, 0)) := fun g cs t hg =>
        (hg3.block g (Array.getElem?_eq_some_iff.1 hg).1 (fun e => by cases e; obtain ⟨es, cl, hes⟩ := hmapAt; rw [hg] at hes; cases hes)).trans hg
      have hsl3 : SliceOf w3 B v zs := (hsl.less (by omega)).keep fun g cs t _ hg => hkeep g cs t hg
      have hca3 : CacheOk w3 B m (n + 1) l := by
        refine ⟨_, hm3, fun y u hy => ?_⟩
        by_cases he : y = Cal.dY day
        · subst he; rw [setAt_same] at hy; cases hy; exact ⟨zs, hsl3, hzs⟩
        · rw [setAt_other _ _ he] at hy
          obtain ⟨zs', a, b⟩ := hf'.out y u hy
          exact ⟨zs', (a.below hb12).keep fun g cs t _ hg => hkeep g cs t hg, b⟩
      have hg03 : W.grownBy w3 (some m) := grownBy_trans (grownBy_below hb12) hg3
      have hall := Lib.hid (And.intro hsl3 (And.intro hca3 (And.intro hg03 hzs)))
      clear hmapAt hkeep hsl3 hca3 hg03 hsl hzs hm3 hg3 hsz3 hlk hc1' hf1'
      go_wp2_with fail
      obtain ⟨hsl3, hca3, hg03, hzs⟩ := hall.out
      refine (search_any w3 B v zs l (Cal.dY day) day hsl3 hzs).mono ?_
      clear hsl3 hca3 hg03 hzs
      rintro e w4 ⟨k, rfl, q, rfl⟩
      go_wp2
      go_ret
      exact ⟨ret_bool (by rw [hfin.out _ rfl]; simp), grownBy_drewN hall.out.2.2.1 _, hall.out.2.1.keep rfl (fun _ _ _ _ h => h)⟩
  · have hfin : Hid (Cal.worksB l day = false) := by show _ = _; unfold Cal.worksB; simp [hwd]
    go_enter Tryd.func44, Tryd.ntmps44
    go_wp2_with (first | (go_at_call 51; refine (weekday_any _ (by omega) (by omega) _).mono ?_; rintro e w' ⟨rfl, rfl⟩))
    go_ret
    exact ⟨ret_bool hfin.out.symm, World.grownBy.refl _ _, hca.mono (by omega)⟩
end Go.Proofs.YtbinoelbjlgjkaaDoor
