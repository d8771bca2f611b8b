/- Chapter 8 and what it rests on: definitions and walks, part 04. -/
import Derived.Shelf.Small.Bits
import Derived.Shelf.Small.Wraps
import Derived.Shelf.Strconv.Itoa0
import Derived.Shelf.Sort.Plain
import Derived.Ground.Names2Prog
import Derived.Shelf.Slices.CompactI
import Derived.Shelf.Slices.SearchI
import Derived.Shelf.Slices.Cells
import Derived.Shelf.Slices.In.SortNone
import Derived.Shelf.Slices.Empties
import Derived.Test.YtconnjkkgaapbaaDoorProg
import Derived.Test.YtconnjkkgaapbaaDoorC03
import Derived.Test.YtconnjkkgaapbaaDoorC02
import Derived.Lib.SlicesCompact
namespace Go.Proofs
open Go.Shelf
def Tryd.lays128_ren : Go.Shelf.Ren := ⟨fun | 128 => 102 | n => n, fun | 51 => 139 | 3 => 3 | 4 => 4 | 46 => 127 | 5 => 5 | 9 => 9 | n => n, fun | n => n⟩
theorem Tryd.lays128 : Go.Proofs.Lays.n128 Tryd.prog Tryd.lays128_ren := {
  mixed := by kernel_rfl
  f128 := Tryd.func102.trans (congrArg some (by kernel_rfl))
  t3 := Tryd.underlying3
  a3 := Tryd.isAgg3
  z3 := Tryd.sizeOf3
  v3 := Tryd.zeroValue3
  t4 := Tryd.underlying4
  a4 := Tryd.isAgg4
  z4 := Tryd.sizeOf4
  v4 := Tryd.zeroValue4
  t5 := Tryd.underlying5
  a5 := Tryd.isAgg5
  z5 := Tryd.sizeOf5
  v5 := Tryd.zeroValue5
  t9 := Tryd.underlying9
  a9 := Tryd.isAgg9
  z9 := Tryd.sizeOf9
  v9 := Tryd.zeroValue9
  t46 := Tryd.underlying127
  a46 := Tryd.isAgg127
  z46 := Tryd.sizeOf127
  v46 := Tryd.zeroValue127
  t51 := Tryd.underlying139
  a51 := Tryd.isAgg139
  z51 := Tryd.sizeOf139
  v51 := Tryd.zeroValue139 }
/-- bits.Len32: "Len32 returns the minimum number of bits required to represent x; the result is 0 for x == 0.": IT RETURNS 'Lib.bitLen x'; the world is as it was. ('h0', 'h1': x is a uint32.) (LAID: no walk: one application.) -/
theorem Tryd.bits_Len32 (x : Int) (w : World) (h0 : 0 ≤ x) (h1 : x ≤ 4294967295) :
    Calls Tryd.prog 102 #[.int .u32 x] w fun e w' => e = .returned (.int .i64 (Lib.bitLen x.toNat)) ∧ w' = w := Any.bits_Len32 Tryd.lays128 x w h0 h1
def Tryd.lays125_ren : Go.Shelf.Ren := ⟨fun | 125 => 93 | 128 => 102 | 129 => 103 | n => n, fun | 46 => 127 | 3 => 3 | 51 => 139 | 53 => 141 | 4 => 4 | 5 => 5 | 9 => 9 | n => n, fun | n => n⟩
theorem Tryd.lays125 : Go.Proofs.Lays.n125 Tryd.prog Tryd.lays125_ren := {
  mixed := by kernel_rfl
  f125 := Tryd.func93.trans (congrArg some (by kernel_rfl))
  f128 := Tryd.func102.trans (congrArg some (by kernel_rfl))
  f129 := Tryd.func103.trans (congrArg some (by kernel_rfl))
  t3 := Tryd.underlying3
  a3 := Tryd.isAgg3
  z3 := Tryd.sizeOf3
  v3 := Tryd.zeroValue3
  t4 := Tryd.underlying4
  a4 := Tryd.isAgg4
  z4 := Tryd.sizeOf4
  v4 := Tryd.zeroValue4
  t5 := Tryd.underlying5
  a5 := Tryd.isAgg5
  z5 := Tryd.sizeOf5
  v5 := Tryd.zeroValue5
  t9 := Tryd.underlying9
  a9 := Tryd.isAgg9
  z9 := Tryd.sizeOf9
  v9 := Tryd.zeroValue9
  t46 := Tryd.underlying127
  a46 := Tryd.isAgg127
  z46 := Tryd.sizeOf127
  v46 := Tryd.zeroValue127
  t51 := Tryd.underlying139
  a51 := Tryd.isAgg139
  z51 := Tryd.sizeOf139
  v51 := Tryd.zeroValue139
  t53 := Tryd.underlying141
  a53 := Tryd.isAgg141
  z53 := Tryd.sizeOf141
  v53 := Tryd.zeroValue141 }
/-- bits.Len: "Len returns the minimum number of bits required to represent x; the result is 0 for x == 0.": IT RETURNS 'Lib.bitLen x'; the world is as it was. (A uint has 64 bits in the model.) ITS CALLEE bits.Len64 IS MET BY ITS OWN CONTRACT OFF THE SHELF (lay that first). (LAID: no walk: one application.) -/
theorem Tryd.bits_Len (x : Int) (w : World) (h0 : 0 ≤ x) (h1 : x ≤ 18446744073709551615) :
    Calls Tryd.prog 93 #[.int .u64 x] w fun e w' => e = .returned (.int .i64 (Lib.bitLen x.toNat)) ∧ w' = w := Any.bits_Len Tryd.lays125 x w h0 h1
def Tryd.lays215_ren : Go.Shelf.Ren := ⟨fun | 215 => 74 | n => n, fun | 3 => 3 | 4 => 4 | n => n, fun | n => n⟩
theorem Tryd.lays215 : Go.Proofs.Lays.n215 Tryd.prog Tryd.lays215_ren := {
  mixed := by kernel_rfl
  f215 := Tryd.func74.trans (congrArg some (by kernel_rfl))
  t3 := Tryd.underlying3
  a3 := Tryd.isAgg3
  z3 := Tryd.sizeOf3
  v3 := Tryd.zeroValue3
  t4 := Tryd.underlying4
  a4 := Tryd.isAgg4
  z4 := Tryd.sizeOf4
  v4 := Tryd.zeroValue4 }
open Go.RowKit in
/-- cmp.isNaN at int: 'x != x': false. (LAID: no walk: one application.) -/
theorem Tryd.cmp_isNaN_int (x : Int) (w : World) :
    Calls Tryd.prog 74 #[.int .i64 x] w fun e w' => e = .returned (.bool false) ∧ w' = w := Any.cmp_isNaN_int Tryd.lays215 x w
def Tryd.lays122_ren : Go.Shelf.Ren := ⟨fun | 122 => 54 | 215 => 74 | n => n, fun | 3 => 3 | 4 => 4 | n => n, fun | n => n⟩
theorem Tryd.lays122 : Go.Proofs.Lays.n122 Tryd.prog Tryd.lays122_ren := {
  mixed := by kernel_rfl
  f122 := Tryd.func54.trans (congrArg some (by kernel_rfl))
  f215 := Tryd.func74.trans (congrArg some (by kernel_rfl))
  t3 := Tryd.underlying3
  a3 := Tryd.isAgg3
  z3 := Tryd.sizeOf3
  v3 := Tryd.zeroValue3
  t4 := Tryd.underlying4
  a4 := Tryd.isAgg4
  z4 := Tryd.sizeOf4
  v4 := Tryd.zeroValue4 }
open Go.RowKit in
/-- cmp.Compare at int: "Compare returns -1 if x is less than y, 0 if x equals y, +1 if x is greater than y.": IT RETURNS 'Lib.compareInt x y'; the world is as it was. (LAID: no walk: one application.) -/
theorem Tryd.cmp_Compare_int (x y : Int) (w : World) :
    Calls Tryd.prog 54 #[.int .i64 x, .int .i64 y] w fun e w' => e = .returned (.int .i64 (Lib.compareInt x y)) ∧ w' = w := Any.cmp_Compare_int Tryd.lays122 x y w
def Tryd.lays129_ren : Go.Shelf.Ren := ⟨fun | 129 => 103 | n => n, fun | 53 => 141 | 3 => 3 | 4 => 4 | 46 => 127 | 5 => 5 | 9 => 9 | n => n, fun | n => n⟩
theorem Tryd.lays129 : Go.Proofs.Lays.n129 Tryd.prog Tryd.lays129_ren := {
  mixed := by kernel_rfl
  f129 := Tryd.func103.trans (congrArg some (by kernel_rfl))
  t3 := Tryd.underlying3
  a3 := Tryd.isAgg3
  z3 := Tryd.sizeOf3
  v3 := Tryd.zeroValue3
  t4 := Tryd.underlying4
  a4 := Tryd.isAgg4
  z4 := Tryd.sizeOf4
  v4 := Tryd.zeroValue4
  t5 := Tryd.underlying5
  a5 := Tryd.isAgg5
  z5 := Tryd.sizeOf5
  v5 := Tryd.zeroValue5
  t9 := Tryd.underlying9
  a9 := Tryd.isAgg9
  z9 := Tryd.sizeOf9
  v9 := Tryd.zeroValue9
  t46 := Tryd.underlying127
  a46 := Tryd.isAgg127
  z46 := Tryd.sizeOf127
  v46 := Tryd.zeroValue127
  t53 := Tryd.underlying141
  a53 := Tryd.isAgg141
  z53 := Tryd.sizeOf141
  v53 := Tryd.zeroValue141 }
/-- bits.Len64: "Len64 returns the minimum number of bits required to represent x; the result is 0 for x == 0.": IT RETURNS 'Lib.bitLen x'; the world is as it was. ('h0', 'h1': x is a uint64.) (LAID: no walk: one application.) -/
theorem Tryd.bits_Len64 (x : Int) (w : World) (h0 : 0 ≤ x) (h1 : x ≤ 18446744073709551615) :
    Calls Tryd.prog 103 #[.int .u64 x] w fun e w' => e = .returned (.int .i64 (Lib.bitLen x.toNat)) ∧ w' = w := Any.bits_Len64 Tryd.lays129 x w h0 h1
def Tryd.lays189_ren : Go.Shelf.Ren := ⟨fun | 189 => 87 | 125 => 93 | 257 => 92 | 128 => 102 | 129 => 103 | 294 => 94 | 295 => 95 | 296 => 96 | 297 => 97 | 298 => 98 | 299 => 99 | 216 => 51 | 300 => 100 | 301 => 101 | 328 => 104 | 329 => 105 | 330 => 106 | 331 => 107 | 332 => 108 | 215 => 74 | 343 => 109 | n => n, fun | 28 => 66 | 3 => 3 | 46 => 127 | 0 => 0 | 51 => 139 | 53 => 141 | 4 => 4 | 183 => 133 | 182 => 132 | 131 => 82 | 5 => 5 | 9 => 9 | 218 => 142 | 222 => 146 | 228 => 148 | 229 => 149 | n => n, fun | n => n⟩
theorem Tryd.lays189 : Go.Proofs.Lays.n189 Tryd.prog Tryd.lays189_ren := {
  mixed := by kernel_rfl
  f125 := Tryd.func93.trans (congrArg some (by kernel_rfl))
  f128 := Tryd.func102.trans (congrArg some (by kernel_rfl))
  f129 := Tryd.func103.trans (congrArg some (by kernel_rfl))
  f189 := Tryd.func87.trans (congrArg some (by kernel_rfl))
  f215 := Tryd.func74.trans (congrArg some (by kernel_rfl))
  f216 := Tryd.func51.trans (congrArg some (by kernel_rfl))
  f257 := Tryd.func92.trans (congrArg some (by kernel_rfl))
  f294 := Tryd.func94.trans (congrArg some (by kernel_rfl))
  f295 := Tryd.func95.trans (congrArg some (by kernel_rfl))
  f296 := Tryd.func96.trans (congrArg some (by kernel_rfl))
  f297 := Tryd.func97.trans (congrArg some (by kernel_rfl))
  f298 := Tryd.func98.trans (congrArg some (by kernel_rfl))
  f299 := Tryd.func99.trans (congrArg some (by kernel_rfl))
  f300 := Tryd.func100.trans (congrArg some (by kernel_rfl))
  f301 := Tryd.func101.trans (congrArg some (by kernel_rfl))
  f328 := Tryd.func104.trans (congrArg some (by kernel_rfl))
  f329 := Tryd.func105.trans (congrArg some (by kernel_rfl))
  f330 := Tryd.func106.trans (congrArg some (by kernel_rfl))
  f331 := Tryd.func107.trans (congrArg some (by kernel_rfl))
  f332 := Tryd.func108.trans (congrArg some (by kernel_rfl))
  f343 := Tryd.func109.trans (congrArg some (by kernel_rfl))
  t0 := Tryd.underlying0
  a0 := Tryd.isAgg0
  z0 := Tryd.sizeOf0
  v0 := Tryd.zeroValue0
  t3 := Tryd.underlying3
  a3 := Tryd.isAgg3
  z3 := Tryd.sizeOf3
  v3 := Tryd.zeroValue3
  t4 := Tryd.underlying4
  a4 := Tryd.isAgg4
  z4 := Tryd.sizeOf4
  v4 := Tryd.zeroValue4
  t5 := Tryd.underlying5
  a5 := Tryd.isAgg5
  z5 := Tryd.sizeOf5
  v5 := Tryd.zeroValue5
  t9 := Tryd.underlying9
  a9 := Tryd.isAgg9
  z9 := Tryd.sizeOf9
  v9 := Tryd.zeroValue9
  t28 := Tryd.underlying66
  a28 := Tryd.isAgg66
  z28 := Tryd.sizeOf66
  v28 := Tryd.zeroValue66
  t46 := Tryd.underlying127
  a46 := Tryd.isAgg127
  z46 := Tryd.sizeOf127
  v46 := Tryd.zeroValue127
  t51 := Tryd.underlying139
  a51 := Tryd.isAgg139
  z51 := Tryd.sizeOf139
  v51 := Tryd.zeroValue139
  t53 := Tryd.underlying141
  a53 := Tryd.isAgg141
  z53 := Tryd.sizeOf141
  v53 := Tryd.zeroValue141
  t131 := Tryd.underlying82
  a131 := Tryd.isAgg82
  z131 := Tryd.sizeOf82
  v131 := Tryd.zeroValue82
  t182 := Tryd.underlying132
  a182 := Tryd.isAgg132
  z182 := Tryd.sizeOf132
  v182 := Tryd.zeroValue132
  t183 := Tryd.underlying133
  a183 := Tryd.isAgg133
  z183 := Tryd.sizeOf133
  v183 := Tryd.zeroValue133
  t218 := Tryd.underlying142
  a218 := Tryd.isAgg142
  z218 := Tryd.sizeOf142
  v218 := Tryd.zeroValue142
  t222 := Tryd.underlying146
  a222 := Tryd.isAgg146
  z222 := Tryd.sizeOf146
  v222 := Tryd.zeroValue146
  t228 := Tryd.underlying148
  a228 := Tryd.isAgg148
  z228 := Tryd.sizeOf148
  v228 := Tryd.zeroValue148
  t229 := Tryd.underlying149
  a229 := Tryd.isAgg149
  z229 := Tryd.sizeOf149
  v229 := Tryd.zeroValue149 }
open Go.Sort Go.RowKit in
theorem Tryd.slices_Sort_int (blk off cap : Nat) (zs : List Int) (w : World) (hH : Holds (Value.int .i64) w blk off zs.toArray) (hblk : blk < w.heap.size) (hsz : zs.length < 4611686018427387904) :
    Calls Tryd.prog 87 #[.slice (some ⟨blk, off, none⟩) zs.length cap] w fun e w' =>
      e = .returned (.tuple #[]) ∧ ∃ n os, w' = grow (putRow (Value.int .i64) (Sort.ahead w n) blk off (zs.mergeSort fun x y => decide (x ≤ y)).toArray) os := Any.slices_Sort_int Tryd.lays189 blk off cap zs w hH hblk hsz
def Tryd.laysNm220_ren : Go.Shelf.Ren := ⟨fun | 20 => 88 | n => n, fun | 22 => 66 | 3 => 3 | 4 => 4 | 0 => 0 | n => n, fun | n => n⟩
theorem Tryd.laysNm220 : Go.Proofs.Lays2.n20 Tryd.prog Tryd.laysNm220_ren := {
  mixed := by kernel_rfl
  f20 := Tryd.func88.trans (congrArg some (by kernel_rfl))
  t0 := Tryd.underlying0
  a0 := Tryd.isAgg0
  z0 := Tryd.sizeOf0
  v0 := Tryd.zeroValue0
  t3 := Tryd.underlying3
  a3 := Tryd.isAgg3
  z3 := Tryd.sizeOf3
  v3 := Tryd.zeroValue3
  t4 := Tryd.underlying4
  a4 := Tryd.isAgg4
  z4 := Tryd.sizeOf4
  v4 := Tryd.zeroValue4
  t22 := Tryd.underlying66
  a22 := Tryd.isAgg66
  z22 := Tryd.sizeOf66
  v22 := Tryd.zeroValue66
  i3 := by kernel_rfl }
open Go.RowKit Go.Lib Go.Sort in
/-- slices.Compact at []int, over an array: the library's two loops are walked. (LAID: no walk: one application.) -/
theorem Tryd.slices_Compact_int_arr (blk off cap : Nat) (d : Array Int) (w : World) (hH : Holds encI w blk off d) (hsz : d.size ≤ 9223372036854775807) (hcap : d.size ≤ cap) :
    Calls Tryd.prog 88 #[.slice (some ⟨blk, off, none⟩) d.size cap] w fun e w' => e = .returned (.slice (some ⟨blk, off, none⟩) (compactUpTo d d.size).length cap) ∧ ∃ q, w' = putRow encI (Sort.ahead w q) blk off (compactUpTo d d.size ++ List.replicate (d.size - (compactUpTo d d.size).length) 0).toArray := Any.slices_Compact_int_arr Tryd.laysNm220 blk off cap d w hH hsz hcap
open Go.RowKit Go.Lib Go.Sort in
/-- slices.Compact at []int: "Compact replaces consecutive runs of equal elements with a single copy. This is like the uniq command found on Unix. Compact modifies the contents of the slice s and returns the modified slice, which may have a smaller length. Compact zeroes the elements between the new length and the original length. The result preserves the nilness of s.": IT RETURNS THE SLICE CUT TO 'Lib.compact zs'; ITS CELLS HOLD 'Lib.compact zs', THEN ZERO VALUES up to the old length; all else is as it was, but for the count of draws. IN THE WORDS OF slices.Sort's CONTRACT ('Holds', 'putRow'): so the everyday 'slices.Sort(xs); xs = slices.Compact(xs)' goes from the one contract to the other. It asks 'zs.length ≤ cap' (every slice's: the reslicing 's[:k]' looks at it). Length 0, nil: '.._empty'. (LAID: no walk: one application.) -/
theorem Tryd.slices_Compact_int (blk off cap : Nat) (zs : List Int) (w : World) (hH : Holds (Value.int .i64) w blk off zs.toArray) (hsz : zs.length ≤ 9223372036854775807) (hcap : zs.length ≤ cap) :
    Calls Tryd.prog 88 #[.slice (some ⟨blk, off, none⟩) zs.length cap] w fun e w' => e = .returned (.slice (some ⟨blk, off, none⟩) (Lib.compact zs).length cap) ∧ ∃ q, w' = putRow (Value.int .i64) (Sort.ahead w q) blk off (Lib.compact zs ++ List.replicate (zs.length - (Lib.compact zs).length) 0).toArray := Any.slices_Compact_int Tryd.laysNm220 blk off cap zs w hH hsz hcap
open Go.RowKit Go.Lib Go.Sort in
/-- The same at a slice of length 0, a nil one too: it comes back as it is. (LAID: no walk: one application.) -/
theorem Tryd.slices_Compact_int_empty (a : Option Addr) (cap : Nat) (w : World) :
    Calls Tryd.prog 88 #[.slice a 0 cap] w fun e w' => e = .returned (.slice a 0 cap) ∧ w' = w := Any.slices_Compact_int_empty Tryd.laysNm220 a cap w
def Tryd.laysNm237_ren : Go.Shelf.Ren := ⟨fun | 37 => 74 | n => n, fun | 3 => 3 | 4 => 4 | n => n, fun | n => n⟩
theorem Tryd.laysNm237 : Go.Proofs.Lays2.n37 Tryd.prog Tryd.laysNm237_ren := {
  mixed := by kernel_rfl
  f37 := Tryd.func74.trans (congrArg some (by kernel_rfl))
  t3 := Tryd.underlying3
  a3 := Tryd.isAgg3
  z3 := Tryd.sizeOf3
  v3 := Tryd.zeroValue3
  t4 := Tryd.underlying4
  a4 := Tryd.isAgg4
  z4 := Tryd.sizeOf4
  v4 := Tryd.zeroValue4 }
open Go.RowKit Go.Lib in
/-- cmp.isNaN[int]: 'x != x': false. (LAID: no walk: one application.) -/
theorem Tryd.cmp_isNaN_int2 (x : Int) (w : World) :
    Calls Tryd.prog 74 #[.int .i64 x] w fun e w' => e = .returned (.bool false) ∧ w' = w := Any.cmp_isNaN_int2 Tryd.laysNm237 x w
def Tryd.laysNm232_ren : Go.Shelf.Ren := ⟨fun | 32 => 89 | n => n, fun | 3 => 3 | 4 => 4 | n => n, fun | n => n⟩
theorem Tryd.laysNm232 : Go.Proofs.Lays2.n32 Tryd.prog Tryd.laysNm232_ren := {
  mixed := by kernel_rfl
  f32 := Tryd.func89.trans (congrArg some (by kernel_rfl))
  t3 := Tryd.underlying3
  a3 := Tryd.isAgg3
  z3 := Tryd.sizeOf3
  v3 := Tryd.zeroValue3
  t4 := Tryd.underlying4
  a4 := Tryd.isAgg4
  z4 := Tryd.sizeOf4
  v4 := Tryd.zeroValue4 }
open Go.RowKit Go.Lib in
/-- slices.isNaN[int]: 'x != x': false. (LAID: no walk: one application.) -/
theorem Tryd.slices_isNaN_int2 (x : Int) (w : World) :
    Calls Tryd.prog 89 #[.int .i64 x] w fun e w' => e = .returned (.bool false) ∧ w' = w := Any.slices_isNaN_int2 Tryd.laysNm232 x w
def Tryd.laysNm231_ren : Go.Shelf.Ren := ⟨fun | 31 => 51 | 37 => 74 | n => n, fun | 3 => 3 | 4 => 4 | n => n, fun | n => n⟩
theorem Tryd.laysNm231 : Go.Proofs.Lays2.n31 Tryd.prog Tryd.laysNm231_ren := {
  mixed := by kernel_rfl
  f31 := Tryd.func51.trans (congrArg some (by kernel_rfl))
  f37 := Tryd.func74.trans (congrArg some (by kernel_rfl))
  t3 := Tryd.underlying3
  a3 := Tryd.isAgg3
  z3 := Tryd.sizeOf3
  v3 := Tryd.zeroValue3
  t4 := Tryd.underlying4
  a4 := Tryd.isAgg4
  z4 := Tryd.sizeOf4
  v4 := Tryd.zeroValue4 }
open Go.RowKit Go.Lib in
/-- cmp.Less[int]: "Less reports whether x is less than y.": 'x < y'; the world is as it was. (LAID: no walk: one application.) -/
theorem Tryd.cmp_Less_int2 (x y : Int) (w : World) :
    Calls Tryd.prog 51 #[.int .i64 x, .int .i64 y] w fun e w' => e = .returned (.bool (decide (x < y))) ∧ w' = w := Any.cmp_Less_int2 Tryd.laysNm231 x y w
def Tryd.laysNm225_ren : Go.Shelf.Ren := ⟨fun | 25 => 71 | 31 => 51 | 32 => 89 | 37 => 74 | n => n, fun | 22 => 66 | 3 => 3 | 4 => 4 | 40 => 127 | 0 => 0 | n => n, fun | n => n⟩
theorem Tryd.laysNm225 : Go.Proofs.Lays2.n25 Tryd.prog Tryd.laysNm225_ren := {
  mixed := by kernel_rfl
  f25 := Tryd.func71.trans (congrArg some (by kernel_rfl))
  f31 := Tryd.func51.trans (congrArg some (by kernel_rfl))
  f32 := Tryd.func89.trans (congrArg some (by kernel_rfl))
  f37 := Tryd.func74.trans (congrArg some (by kernel_rfl))
  t0 := Tryd.underlying0
  a0 := Tryd.isAgg0
  z0 := Tryd.sizeOf0
  v0 := Tryd.zeroValue0
  t3 := Tryd.underlying3
  a3 := Tryd.isAgg3
  z3 := Tryd.sizeOf3
  v3 := Tryd.zeroValue3
  t4 := Tryd.underlying4
  a4 := Tryd.isAgg4
  z4 := Tryd.sizeOf4
  v4 := Tryd.zeroValue4
  t22 := Tryd.underlying66
  a22 := Tryd.isAgg66
  z22 := Tryd.sizeOf66
  v22 := Tryd.zeroValue66
  t40 := Tryd.underlying127
  a40 := Tryd.isAgg127
  z40 := Tryd.sizeOf127
  v40 := Tryd.zeroValue127 }
open Go.RowKit Go.Lib in
/-- slices.BinarySearch at []int: "BinarySearch searches for target in a sorted slice and returns the earliest position where target is found, or the position where target would appear in the sort order; it also returns a bool saying whether the target is really found in the slice. The slice must be sorted in increasing order.": OF A SORTED SLICE IT RETURNS how many elements are less than the target, and whether the target is among the elements; the world is as it was but for the count of draws. 'zs': what the cells behind the slice's address hold; 'zs.take n': its elements. (Of a slice that is not sorted: no contract here.) (LAID: no walk: one application.) -/
theorem Tryd.slices_BinarySearch_int (b off n c : Nat) (zs : List Int) (x : Int) (w : World) (hz : n ≤ zs.length) (hbig : n < 4611686018427387904) (hc : ∀ j, j < zs.length → w.cell? ⟨b, off + j, none⟩ = some (.int .i64 (zs.getD j 0))) (hs : (zs.take n).Pairwise (· ≤ ·)) :
    Calls Tryd.prog 71 #[.slice (some ⟨b, off, none⟩) n c, .int .i64 x] w fun e w' => e = .returned (.tuple #[.int .i64 ((zs.take n).countP (· < x) : Nat), .bool ((zs.take n).contains x)]) ∧ ∃ q, w' = w.drewN q := Any.slices_BinarySearch_int Tryd.laysNm225 b off n c zs x w hz hbig hc hs
open Go.RowKit Go.Lib Go.Sort in
/-- slices.Compact at []int, of an argument: the slice cut to 'Lib.compact (elements)'; the n cells hold that, then zeros. (LAID: no walk: one application.) -/
theorem Tryd.slices_Compact_int_cells (b off n c : Nat) (zs : List Int) (w : World) (hz : n ≤ zs.length) (hbig : n ≤ 9223372036854775807) (hcap : n ≤ c) (hc : ∀ j, j < zs.length → w.cell? ⟨b, off + j, none⟩ = some (.int .i64 (zs.getD j 0))) (hf : ∀ j, j < n → w.frozen? ⟨b, off + j, none⟩ = false) :
    Calls Tryd.prog 88 #[.slice (some ⟨b, off, none⟩) n c] w fun e w' => e = .returned (.slice (some ⟨b, off, none⟩) (Lib.compact (zs.take n)).length c) ∧ ∃ q, w' = (w.drewN q).setCells b off ((Lib.compact (zs.take n) ++ List.replicate (n - (Lib.compact (zs.take n)).length) 0).map (Value.int .i64)) := Any.slices_Compact_int_cells Tryd.laysNm220 b off n c zs w hz hbig hcap hc hf
open Go.RowKit Go.Sort in
/-- .. and plain. (LAID: no walk: one application.) -/
theorem Tryd.slices_Sort_int_none (p : Option Addr) (cap : Nat) (w : World) :
    Calls Tryd.prog 87 #[.slice p 0 cap] w fun e w' => e = .returned (.tuple #[]) ∧ w' = w := Any.slices_Sort_int_none Tryd.lays189 p cap w
open Go.RowKit Go.Lib in
/-- slices.BinarySearch at []int of no element: position 0, not found; the world is as it was. (LAID: no walk: one application.) -/
theorem Tryd.slices_BinarySearch_int_empty (a : Option Addr) (c : Nat) (x : Int) (w : World) :
    Calls Tryd.prog 71 #[.slice a 0 c, .int .i64 x] w fun e w' => e = .returned (.tuple #[.int .i64 0, .bool false]) ∧ w' = w := Any.slices_BinarySearch_int_empty Tryd.laysNm225 a c x w
end Go.Proofs
namespace Go.Proofs.YtconnjkkgaapbaaDoor
open Go Go.RowKit Go.Maps Go.WideMaps

/-- The day of a holiday in a year; none: the year has none. -/
def Cal.onS (h : Hol) (y : Int) : Option Int :=
  if h.kind = 0 then (if h.day ≤ Cal.mlen y h.month then some (Cal.first y h.month + h.day - 1) else none)
  else if h.kind = 1 then some (Cal.easter y + h.day)
  else if 0 < h.day then some (Cal.first y h.month + (h.weekday - (Cal.first y h.month + 2) % 7 + 7) % 7 + 7 * (h.day - 1))
  else some (Cal.first y h.month + Cal.mlen y h.month - 1 - (Cal.first y h.month + Cal.mlen y h.month - 1 - (Cal.first y h.month + (h.weekday - (Cal.first y h.month + 2) % 7 + 7) % 7)) % 7)
def Cal.hols (l : List Hol) (y : Int) : List Int := l.filterMap fun h => Cal.onS h y
def Cal.worksB (l : List Hol) (d : Int) : Bool := decide ((d + 2) % 7 ≤ 4) && !(Cal.hols l (Cal.dY d)).contains d
/-- zs are the holidays of a year, ascending, each once. -/
def HolsAre (zs : List Int) (l : List Hol) (y : Int) : Prop := zs.Pairwise (· < ·) ∧ ∀ d, d ∈ zs ↔ d ∈ Cal.hols l y
/-- A slice of the call's own (its block from B on) that reads as numbers. -/
def SliceOf (W : World) (B : Nat) (v : Value) (zs : List Int) : Prop :=
  ∃ A c, v = .slice A zs.length c ∧ zs.length ≤ 1000000 ∧ (zs ≠ [] → ∃ g cs t, A = some ⟨g, 0, none⟩ ∧ B ≤ g ∧ W.heap[g]? = some (.cells cs t (0, 0)) ∧ ∀ (j : Nat) x, zs[j]? = some x → cs[j]? = some (.int .i64 x))
theorem SliceOf.keep {W W' : World} {B : Nat} {v : Value} {zs : List Int} (h : SliceOf W B v zs) (hk : ∀ (g : Nat) cs t, B ≤ g → W.heap[g]? = some (.cells cs t (0, 0)) → W'.heap[g]? = some (.cells cs t (0, 0))) : SliceOf W' B v zs := by
  obtain ⟨A, c, hv, hz, h⟩ := h
  exact ⟨A, c, hv, hz, fun hne => by obtain ⟨g, cs, t, h1, h2, h3, h4⟩ := h hne; exact ⟨g, cs, t, h1, h2, hk g cs t h2 h3, h4⟩⟩
theorem SliceOf.below {W W' : World} {B : Nat} {v : Value} {zs : List Int} (h : SliceOf W B v zs) (hb : Below W.heap.size W W') : SliceOf W' B v zs :=
  h.keep fun g _ _ _ hg => (hb.block g (Array.getElem?_eq_some_iff.1 hg).1).trans hg
theorem SliceOf.less {W : World} {B B' : Nat} {v : Value} {zs : List Int} (h : SliceOf W B v zs) (hB : B' ≤ B) : SliceOf W B' v zs := by
  obtain ⟨A, c, hv, hz, h⟩ := h
  exact ⟨A, c, hv, hz, fun hne => by obtain ⟨g, cs, t, h1, h2, h3, h4⟩ := h hne; exact ⟨g, cs, t, h1, by omega, h3, h4⟩⟩
theorem SliceOf.cells {W : World} {B : Nat} {v : Value} {zs : List Int} (h : SliceOf W B v zs) (hne : zs ≠ []) : ∃ g c, v = .slice (some ⟨g, 0, none⟩) zs.length c ∧ zs.length ≤ 1000000 ∧ ∀ j, j < zs.length → W.cell? ⟨g, 0 + j, none⟩ = some (.int .i64 (zs.getD j 0)) := by
  obtain ⟨A, c, hv, hz, h⟩ := h
  obtain ⟨g, cs, t, rfl, _, h3, h4⟩ := h hne
  refine ⟨g, c, hv, hz, fun j hj => ?_⟩
  have := h4 j zs[j] (List.getElem?_eq_getElem hj)
  rw [cell_of_row W g (0 + j) cs t (0, 0) h3, Nat.zero_add, this]
  simp [List.getD, hj]
def HolPost (W : World) (l : List Hol) (y : Int) (e : Ending) (W' : World) : Prop := ∃ v zs, e = .returned v ∧ SliceOf W' W.heap.size v zs ∧ HolsAre zs l y ∧ Below W.heap.size W W'
/-- What is asked of holidaysOf at a list. -/
def HolCalls (A : Option Addr) (c : Nat) (l : List Hol) : Prop := ∀ (y : Int) (W : World), 1800 ≤ y → y ≤ 2347 → Hols W A l → Tab W → Calls Tryd.prog 70 #[.slice A l.length c, .int .i64 y] W (HolPost W l y)
def intLit (x : Int) : Lit := .int .i64 x
theorem intLit_inj (x y : Int) (h : intLit x = intLit y) : x = y := by unfold intLit at h; cases h; rfl
def CacheOk (W : World) (B m n : Nat) (l : List Hol) : Prop := ∃ f : Int → Option Value, MapIs Tryd.prog 3 intLit W m n f ∧ ∀ y v, f y = some v → ∃ zs, SliceOf W B v zs ∧ HolsAre zs l y
theorem slZero (w : World) : (zeroValue 66).run Tryd.prog w = .ok (.slice none 0 0) w := by kernel_rfl
theorem CacheOk.keep {W W' : World} {B m n : Nat} {l : List Hol} (h : CacheOk W B m n l) (hm : W'.heap[m]? = W.heap[m]?) (hk : ∀ (g : Nat) cs t, B ≤ g → W.heap[g]? = some (.cells cs t (0, 0)) → W'.heap[g]? = some (.cells cs t (0, 0))) : CacheOk W' B m n l := by
  obtain ⟨f, h1, h2⟩ := h
  exact ⟨f, h1.same hm, fun y v hv => by obtain ⟨zs, a, b⟩ := h2 y v hv; exact ⟨zs, a.keep hk, b⟩⟩
theorem CacheOk.below {W W' : World} {B m n : Nat} {l : List Hol} (h : CacheOk W B m n l) (hb : Below W.heap.size W W') : CacheOk W' B m n l := by
  obtain ⟨f, h1, h2⟩ := h
  exact ⟨f, h1.below hb h1.lt, fun y v hv => by obtain ⟨zs, a, b⟩ := h2 y v hv; exact ⟨zs, a.below hb, b⟩⟩
theorem CacheOk.mono {W : World} {B m n n' : Nat} {l : List Hol} (h : CacheOk W B m n l) (hn : n ≤ n') : CacheOk W B m n' l := by
  obtain ⟨f, h1, h2⟩ := h; exact ⟨f, h1.mono hn, h2⟩
/-- The calendar in memory. -/
structure Calend (W : World) (cb m : Nat) (A : Option Addr) (c : Nat) (l : List Hol) : Prop where
  c0 : W.cell? ⟨cb, 0, none⟩ = some (.slice A l.length c)
  c1 : W.cell? ⟨cb, 1, none⟩ = some (.map (some m))
  lt : cb < W.heap.size
  hols : Hols W A l
  tab : Tab W
theorem field_date0 (x y z : Int) (w : World) : (Instr.field 105 (.agg #[.int .i64 x, .int .i64 y, .int .i64 z]) 0).run Tryd.prog w = .ok (.int .i64 x) w := by kernel_rfl
def WorksPost (W : World) (B m n : Nat) (l : List Hol) (d : Int) (e : Ending) (W' : World) : Prop := e = .returned (.bool (Cal.worksB l d)) ∧ W.grownBy W' (some m) ∧ CacheOk W' B m (n + 1) l
theorem HolsAre.contains {zs : List Int} {l : List Hol} {y : Int} (h : HolsAre zs l y) (d : Int) : zs.contains d = (Cal.hols l y).contains d := by
  rw [Bool.eq_iff_iff]; simp only [List.contains_iff_mem]; exact h.2 d
theorem HolsAre.sorted {zs : List Int} {l : List Hol} {y : Int} (h : HolsAre zs l y) : zs.Pairwise (· ≤ ·) := h.1.imp fun h => by omega
theorem grownBy_below {W W' : World} {row : Option Nat} (h : Below W.heap.size W W') : W.grownBy W' row := ⟨h.os, h.tape, h.output, h.size, fun i hi _ => h.block i hi⟩
theorem grownBy_drewN {W W' : World} {row : Option Nat} (h : W.grownBy W' row) (n : Nat) : W.grownBy (W'.drewN n) row := ⟨h.os, h.tape, h.output, h.size, h.block⟩
theorem grownBy_trans {a b c : World} {row : Option Nat} (h : a.grownBy b row) (k : b.grownBy c row) : a.grownBy c row :=
  ⟨k.os.trans h.os, k.tape.trans h.tape, k.output.trans h.output, Nat.le_trans h.size k.size, fun i hi hne => (k.block i (Nat.lt_of_lt_of_le hi h.size) hne).trans (h.block i hi hne)⟩
/-- BinarySearch of a day in a list of holidays. -/
theorem search_any (W : World) (B : Nat) (v : Value) (zs : List Int) (l : List Hol) (y d : Int) (h : SliceOf W B v zs) (hz : HolsAre zs l y) :
    Calls Tryd.prog 71 #[v, .int .i64 d] W fun e W' => ∃ k : Int, e = .returned (.tuple #[.int .i64 k, .bool ((Cal.hols l y).contains d)]) ∧ ∃ q, W' = W.drewN q := by
  rw [← hz.contains d]
  by_cases hne : zs = []
  · subst hne
    obtain ⟨A, c, rfl, _, _⟩ := h
    exact (Tryd.slices_BinarySearch_int_empty A c d W).mono fun e W' ⟨he, hw⟩ => ⟨0, by rw [he]; rfl, 0, hw⟩
  · obtain ⟨g, c, rfl, hsz, hc⟩ := h.cells hne
    have hs := hz.sorted
    refine (Tryd.slices_BinarySearch_int g 0 zs.length c zs d W (Nat.le_refl _) (by omega) hc (by rw [List.take_length]; exact hs)).mono fun e W' hq => ?_
    obtain ⟨he, q, hw⟩ := hq
    rw [List.take_length] at he
    exact ⟨_, he, q, hw⟩

set_option maxRecDepth 100000 in
set_option maxHeartbeats 1000000 in
theorem works_any (cb m : Nat) (A : Option Addr) (c : Nat) (l : List Hol) (hHol : HolCalls A c l) (day : Int) (y0 : 0 ≤ day) (y1 : day ≤ 200000) (B n : Nat) (W : World) (hcal : Calend W cb m A c l) (hca : CacheOk W B m n l) (hn : n ≤ 1000000) (hB : B ≤ W.heap.size) :
    Calls Tryd.prog 46 #[.pointer (some ⟨cb, 0, none⟩), .int .i64 day] W (WorksPost W B m n l day) := by
  by_cases hwd : (day + 2) % 7 ≤ 4
  · obtain ⟨dy0, dy1⟩ := Cal.dY_bd day y0 y1
    have hwd' := Lib.hid hwd
    have hT := Lib.hid hcal.tab
    have hlt := hcal.lt
    have hc0 := hcal.c0
    have hc1 := hcal.c1
    have hmlt : m < W.heap.size := by obtain ⟨f, h, _⟩ := hca; exact h.lt
    have hfin : ∀ b : Bool, (Cal.hols l (Cal.dY day)).contains day = b → Cal.worksB l day = !b := fun b h => by unfold Cal.worksB; rw [h]; simp [hwd]
    have hfin := Lib.hid hfin
    have hHol := Lib.hid hHol
    have hfld := fun w => field_date0 (Cal.dY day) (Cal.dM day) (Cal.dD day) w
    have hcal' := Lib.hid hcal
    clear hcal
    obtain ⟨f, hmap, hf⟩ := hca
    cases hv : f (Cal.dY day) with
    | some v =>
      obtain ⟨zs, hsl, hzs⟩ := hf _ _ hv
      have hlook := fun (w1 : World) (h1 : Below W.heap.size W w1) => (hmap.below h1 hmlt).look_ok (int_keyed Tryd.underlying3) Tryd.underlying108 (slZero _) (key := .int .i64 (Cal.dY day)) (kl := Cal.dY day) (keyOf_int_mk Tryd.underlying3 (WalkArith.wf_i64 (by omega)))
      rw [hv] at hlook
      have hlook := Lib.hid hlook
      have hall := Lib.hid (And.intro hmap (And.intro hf (And.intro hsl hzs)))
      clear hmap hf hsl hzs hv
      go_enter Tryd.func46, Tryd.ntmps46
      go_wp2_with (first | (go_at_call 69; refine (weekday_any _ (by omega) (by omega) _).mono ?_; rintro e w' ⟨rfl, rfl⟩) | (go_at_call 65; refine (dateOf_any day y0 y1 _ hT.out).mono ?_; rintro e w1 ⟨rfl, hb1⟩; obtain ⟨hc1', hf1'⟩ := bcell hb1; have hlk := hlook.out w1 hb1))
      obtain ⟨hmap, hf, hsl, hzs⟩ := hall.out
      refine (search_any w1 B v zs l (Cal.dY day) day (hsl.below hb1) hzs).mono ?_
      have hca' := Lib.hid (show CacheOk w1 B m (n + 1) l from (CacheOk.below ⟨f, hmap, hf⟩ hb1).mono (by omega))
      clear hmap hf hsl hzs
      rintro e w2 ⟨k, rfl, q, rfl⟩
      go_wp2
      go_ret
      exact ⟨ret_bool (by rw [hfin.out _ rfl]; simp), grownBy_drewN (grownBy_below hb1) _, hca'.out.keep rfl (fun _ _ _ _ h => h)⟩
    | none =>
      have hlook := fun (w1 : World) (h1 : Below W.heap.size W w1) => (hmap.below h1 hmlt).look_ok (int_keyed Tryd.underlying3) Tryd.underlying108 (slZero _) (key := .int .i64 (Cal.dY day)) (kl := Cal.dY day) (keyOf_int_mk Tryd.underlying3 (WalkArith.wf_i64 (by omega)))
      rw [hv] at hlook
      have hlook := Lib.hid hlook
      have hca' := Lib.hid (show CacheOk W B m n l from ⟨f, hmap, hf⟩)
      have hm' := Lib.hid hmap
      have hf' := Lib.hid hf
      clear hmap hf hv
      go_enter Tryd.func46, Tryd.ntmps46
      go_wp2_with (first | (go_at_call 69; refine (weekday_any _ (by omega) (by omega) _).mono ?_; rintro e w' ⟨rfl, rfl⟩) | (go_at_call 65; refine (dateOf_any day y0 y1 _ hT.out).mono ?_; rintro e w1 ⟨rfl, hb1⟩; obtain ⟨hc1', hf1'⟩ := bcell hb1; have hlk := hlook.out w1 hb1))
      refine (hHol.out (Cal.dY day) w1 dy0 dy1 (hcal'.out.hols.below hb1) (hT.out.below hb1)).mono ?_
      rintro e w2 ⟨v, zs, rfl, hsl, hzs, hb2⟩
      have hb12 := below_step hb1 hb2
      have hs1 := hb1.size
      have hs2 := hb2.size
      obtain ⟨w3, hrun, hm3, hg3, hsz3⟩ := (hm'.out.below hb12 hmlt).store intLit_inj (int_keyed Tryd.underlying3) Tryd.underlying108 (by unfold maxLen; omega) (val := v) (key := .int .i64 (Cal.dY day)) (kl := Cal.dY day) (keyOf_int_mk Tryd.underlying3 (WalkArith.wf_i64 (by omega)))
      have hd1 : w2.cell? ⟨cb, 0, none⟩ = some (.slice A l.length c) := (hb12.cell (p := ⟨cb, 0, none⟩) hlt).trans hc0
      have hd2 : w2.cell? ⟨cb, 1, none⟩ = some (.map (some m)) := (hb12.cell (p := ⟨cb, 1, none⟩) hlt).trans hc1
      have hmapAt := (hm'.out.below hb12 hmlt).isMap
      have hkeep : ∀ (g : Nat) cs t, w2.heap[g]? = some (.cells cs t (0, 0)) → w3.heap[g]? = some (.cells cs t (0, 0)) := fun g cs t hg =>
        (hg3.block g (Array.getElem?_eq_some_iff.1 hg).1 (fun e => by cases e; obtain ⟨es, cl, hes⟩ := hmapAt; rw [hg] at hes; cases hes)).trans hg
      have hsl3 : SliceOf w3 B v zs := (hsl.less (by omega)).keep fun g cs t _ hg => hkeep g cs t hg
      have hca3 : CacheOk w3 B m (n + 1) l := by
        refine ⟨_, hm3, fun y u hy => ?_⟩
        by_cases he : y = Cal.dY day
        · subst he; rw [setAt_same] at hy; cases hy; exact ⟨zs, hsl3, hzs⟩
        · rw [setAt_other _ _ he] at hy
          obtain ⟨zs', a, b⟩ := hf'.out y u hy
          exact ⟨zs', (a.below hb12).keep fun g cs t _ hg => hkeep g cs t hg, b⟩
      have hg03 : W.grownBy w3 (some m) := grownBy_trans (grownBy_below hb12) hg3
      have hall := Lib.hid (And.intro hsl3 (And.intro hca3 (And.intro hg03 hzs)))
      clear hmapAt hkeep hsl3 hca3 hg03 hsl hzs hm3 hg3 hsz3 hlk hc1' hf1'
      go_wp2_with fail
      obtain ⟨hsl3, hca3, hg03, hzs⟩ := hall.out
      refine (search_any w3 B v zs l (Cal.dY day) day hsl3 hzs).mono ?_
      clear hsl3 hca3 hg03 hzs
      rintro e w4 ⟨k, rfl, q, rfl⟩
      go_wp2
      go_ret
      exact ⟨ret_bool (by rw [hfin.out _ rfl]; simp), grownBy_drewN hall.out.2.2.1 _, hall.out.2.1.keep rfl (fun _ _ _ _ h => h)⟩
  · have hfin : Hid (Cal.worksB l day = false) := by show _ = _; unfold Cal.worksB; simp [hwd]
    go_enter Tryd.func46, Tryd.ntmps46
    go_wp2_with (first | (go_at_call 69; refine (weekday_any _ (by omega) (by omega) _).mono ?_; rintro e w' ⟨rfl, rfl⟩))
    go_ret
    exact ⟨ret_bool hfin.out.symm, World.grownBy.refl _ _, hca.mono (by omega)⟩
end Go.Proofs.YtconnjkkgaapbaaDoor
namespace Go.Proofs.YtconnjkkgaapbaaDoor.Cal
def idx (day : Int) : Int := 12 * dY day + dM day - 1
def mfirst (t : Int) : Int := first (t / 12) (t % 12 + 1)
def mval (d t : Int) : Int := mfirst t + min d (mlen (t / 12) (t % 12 + 1)) - 1
theorem mfirst_succ (t : Int) : mfirst (t + 1) = mfirst t + mlen (t / 12) (t % 12 + 1) := by
  unfold mfirst
  by_cases h : t % 12 = 11
  · have e1 : (t + 1) / 12 = t / 12 + 1 := by omega
    have e2 : (t + 1) % 12 + 1 = 1 := by omega
    have e3 : t % 12 + 1 = 12 := by omega
    rw [e1, e2, e3, first_1, ← first_13]
    exact first_succ (t / 12) 12 (by omega) (by omega)
  · have e1 : (t + 1) / 12 = t / 12 := by omega
    have e2 : (t + 1) % 12 + 1 = t % 12 + 1 + 1 := by omega
    rw [e1, e2]
    exact first_succ (t / 12) (t % 12 + 1) (by omega) (by omega)
theorem mfirst_add (t : Int) (n : Nat) : mfirst t ≤ mfirst (t + n) := by
  induction n with
  | zero => simp
  | succ n ih =>
    have h := mfirst_succ (t + n)
    have := mlen_bd ((t + n) / 12) ((t + n) % 12 + 1)
    rw [show t + ((n + 1 : Nat) : Int) = t + n + 1 by omega]
    omega
theorem mfirst_mono {t u : Int} (h : t ≤ u) : mfirst t ≤ mfirst u := by
  have := mfirst_add t (u - t).toNat
  rwa [show t + ((u - t).toNat : Int) = u by omega] at this
theorem mval_lo {d t : Int} (h : 1 ≤ d) : mfirst t ≤ mval d t := by
  have := mlen_bd (t / 12) (t % 12 + 1)
  unfold mval; omega
theorem mval_hi (d t : Int) : mval d t < mfirst (t + 1) := by
  rw [mfirst_succ]; unfold mval; omega
theorem mval_mono {d t u : Int} (hd : 1 ≤ d) (h : t ≤ u) : mval d t ≤ mval d u := by
  rcases Int.lt_or_eq_of_le h with h | rfl
  · have := mval_hi d t
    have := mfirst_mono (t := t + 1) (u := u) (by omega)
    have := mval_lo (d := d) (t := u) hd
    omega
  · exact Int.le_refl _
section
variable {day : Int} (h0 : 0 ≤ day) (h1 : day ≤ 200000)
include h0 h1
theorem idx_div : idx day / 12 = dY day ∧ idx day % 12 + 1 = dM day := by
  obtain ⟨m1, m2, _, _, _⟩ := date_spec day h0 (by omega)
  unfold idx; omega
theorem mfirst_idx : mfirst (idx day) ≤ day ∧ day < mfirst (idx day + 1) := by
  obtain ⟨m1, m2, d1, d2, hd⟩ := date_spec day h0 (by omega)
  obtain ⟨e1, e2⟩ := idx_div h0 h1
  rw [mfirst_succ]; unfold mfirst; rw [e1, e2]; omega
theorem mval_idx : mval (dD day) (idx day) = day := by
  obtain ⟨m1, m2, d1, d2, hd⟩ := date_spec day h0 (by omega)
  obtain ⟨e1, e2⟩ := idx_div h0 h1
  unfold mval mfirst; rw [e1, e2]; omega
theorem dD_pos : 1 ≤ dD day := (date_spec day h0 (by omega)).d1
theorem idx_bd : 21600 ≤ idx day ∧ idx day ≤ 28175 := by
  obtain ⟨m1, m2, _, _, _⟩ := date_spec day h0 (by omega)
  have := dY_bd day h0 h1
  unfold idx; omega
end
theorem laterT_idx (day m : Int) : laterT day m = idx day + m := by unfold laterT idx; omega
theorem laterS_eq (day m : Int) : laterS day m = if 1800 ≤ (idx day + m) / 12 ∧ (idx day + m) / 12 ≤ 2347 then (mval (dD day) (idx day + m), decide (mval (dD day) (idx day + m) ≤ 200000)) else (0, false) := by
  unfold laterS; rw [laterT_idx]; rfl
theorem laterS_in {day m : Int} (ha : 21600 ≤ idx day + m) (hb : idx day + m ≤ 28175) : laterS day m = (mval (dD day) (idx day + m), decide (mval (dD day) (idx day + m) ≤ 200000)) := by
  rw [laterS_eq, if_pos (by omega)]
theorem laterS_nonneg {day : Int} (h0 : 0 ≤ day) (h1 : day ≤ 200000) (m : Int) : 0 ≤ (laterS day m).1 := by
  rw [laterS_eq]
  split
  · rename_i hy
    have := mval_lo (t := idx day + m) (dD_pos h0 h1)
    have hf := first_bd ((idx day + m) / 12) ((idx day + m) % 12 + 1) hy.1 (by omega)
    unfold mfirst at this
    simp only; omega
  · exact Int.le_refl _
theorem idx_mono {a b : Int} (h0 : 0 ≤ a) (h : a ≤ b) (h1 : b ≤ 200000) : idx a ≤ idx b := by
  apply Classical.byContradiction
  intro hn
  have := (mfirst_idx h0 (by omega)).1
  have := (mfirst_idx (day := b) (by omega) h1).2
  have := mfirst_mono (t := idx b + 1) (u := idx a) (by omega)
  omega
def Good (a b m : Int) : Prop := (laterS a m).2 = true ∧ (laterS a m).1 ≤ b
instance (a b m : Int) : Decidable (Good a b m) := inferInstanceAs (Decidable (_ ∧ _))
/-- So many whole months from a day to another one. -/
def ageM (a b : Int) : Int := if Good a b (idx b - idx a) then idx b - idx a else idx b - idx a - 1
section
variable {a b : Int} (h0 : 0 ≤ a) (h : a ≤ b) (h1 : b ≤ 200000)
include h0 h h1
theorem good_in {m : Int} (hm : 0 ≤ m) (hi : idx a + m ≤ idx b) (hv : mval (dD a) (idx a + m) ≤ b) : Good a b m := by
  have ha := idx_bd h0 (show a ≤ 200000 by omega)
  have hb := idx_bd (show 0 ≤ b by omega) h1
  unfold Good
  rw [laterS_in (by omega) (by omega)]
  exact ⟨by simp; omega, hv⟩
theorem good_zero : laterS a 0 = (a, true) := by
  have ha := idx_bd h0 (show a ≤ 200000 by omega)
  rw [laterS_in (by omega) (by omega), Int.add_zero, mval_idx h0 (by omega)]
  simp; omega
theorem good_less {m : Int} (hm : 0 ≤ m) (hi : idx a + m < idx b) : Good a b m := by
  refine good_in h0 h h1 hm (by omega) ?_
  have := mval_hi (dD a) (idx a + m)
  have := mfirst_mono (t := idx a + m + 1) (u := idx b) (by omega)
  have := (mfirst_idx (show 0 ≤ b by omega) h1).1
  omega
theorem age_nonneg : 0 ≤ ageM a b := by
  have hi := idx_mono h0 h h1
  unfold ageM
  split
  · omega
  · rename_i hn
    by_cases he : idx b - idx a = 0
    · exfalso; apply hn; rw [he]
      unfold Good; rw [good_zero h0 h h1]; exact ⟨rfl, h⟩
    · omega
theorem age_good : Good a b (ageM a b) := by
  have h2 := age_nonneg h0 h h1
  by_cases hg : Good a b (idx b - idx a)
  · unfold ageM; rw [if_pos hg]; exact hg
  · have e : ageM a b = idx b - idx a - 1 := by unfold ageM; rw [if_neg hg]
    rw [e] at h2 ⊢
    exact good_less h0 h h1 h2 (by omega)
theorem age_next : ¬ Good a b (ageM a b + 1) := by
  have ha := idx_bd h0 (show a ≤ 200000 by omega)
  have hb := idx_bd (show 0 ≤ b by omega) h1
  by_cases hg : Good a b (idx b - idx a)
  · have e : ageM a b = idx b - idx a := by unfold ageM; rw [if_pos hg]
    rw [e]
    rintro ⟨g1, g2⟩
    rw [laterS_eq] at g1 g2
    rw [show idx a + (idx b - idx a + 1) = idx b + 1 by omega] at g1 g2
    by_cases hy : 1800 ≤ (idx b + 1) / 12 ∧ (idx b + 1) / 12 ≤ 2347
    · rw [if_pos hy] at g2
      have := mval_lo (t := idx b + 1) (dD_pos h0 (show a ≤ 200000 by omega))
      have := (mfirst_idx (show 0 ≤ b by omega) h1).2
      simp only at g2; omega
    · rw [if_neg hy] at g1; simp at g1
  · have e : ageM a b = idx b - idx a - 1 := by unfold ageM; rw [if_neg hg]
    rw [e, show idx b - idx a - 1 + 1 = idx b - idx a by omega]; exact hg
theorem age_lt {m : Int} (hm : 0 ≤ m) (hlt : m < ageM a b) : Good a b (m + 1) := by
  have hg := age_good h0 h h1
  have hle : ageM a b ≤ idx b - idx a := by unfold ageM; split <;> omega
  have ha := idx_bd h0 (show a ≤ 200000 by omega)
  have hb := idx_bd (show 0 ≤ b by omega) h1
  refine good_in h0 h h1 (by omega) (by omega) ?_
  obtain ⟨_, g2⟩ := hg
  rw [laterS_in (by omega) (by omega)] at g2
  have := mval_mono (t := idx a + (m + 1)) (u := idx a + ageM a b) (dD_pos h0 (show a ≤ 200000 by omega)) (by omega)
  simp only at g2; omega
theorem age_le : ageM a b ≤ 6600 := by
  have ha := idx_bd h0 (show a ≤ 200000 by omega)
  have hb := idx_bd (show 0 ≤ b by omega) h1
  unfold ageM; split <;> omega
end
end Go.Proofs.YtconnjkkgaapbaaDoor.Cal
namespace Go.Proofs.YtconnjkkgaapbaaDoor.Cal
open Go.Lib
theorem up_ext : ∀ {xs ys : List Int}, xs.Pairwise (· < ·) → ys.Pairwise (· < ·) → (∀ d, d ∈ xs ↔ d ∈ ys) → xs = ys
  | [], [], _, _, _ => rfl
  | [], y :: ys, _, _, h => absurd ((h y).2 (List.mem_cons_self ..)) (by simp)
  | x :: xs, [], _, _, h => absurd ((h x).1 (List.mem_cons_self ..)) (by simp)
  | x :: xs, y :: ys, hx, hy, h => by
    rw [List.pairwise_cons] at hx hy
    have e : x = y := by
      rcases Int.lt_trichotomy x y with hlt | he | hgt
      · exfalso
        rcases List.mem_cons.1 ((h x).1 (List.mem_cons_self ..)) with he | hm
        · omega
        · have := hy.1 x hm; omega
      · exact he
      · exfalso
        rcases List.mem_cons.1 ((h y).2 (List.mem_cons_self ..)) with he | hm
        · omega
        · have := hx.1 y hm; omega
    subst e
    congr 1
    refine up_ext hx.2 hy.2 fun d => ⟨fun hd => ?_, fun hd => ?_⟩
    · rcases List.mem_cons.1 ((h d).1 (List.mem_cons_of_mem _ hd)) with he | hm
      · have := hx.1 d hd; omega
      · exact hm
    · rcases List.mem_cons.1 ((h d).2 (List.mem_cons_of_mem _ hd)) with he | hm
      · have := hy.1 d hd; omega
      · exact hm
theorem compactUpTo_spec (d : Array Int) (hs : ∀ i j, i ≤ j → j < d.size → d[i]! ≤ d[j]!) : ∀ m, m ≤ d.size →
    (compactUpTo d m).Pairwise (· < ·) ∧ ∀ x, x ∈ compactUpTo d m ↔ ∃ j, j < m ∧ d[j]! = x
  | 0, _ => ⟨List.Pairwise.nil, fun x => ⟨fun h => by simp [compactUpTo] at h, fun ⟨j, hj, _⟩ => by omega⟩⟩
  | m + 1, hm => by
    obtain ⟨ih1, ih2⟩ := compactUpTo_spec d hs m (by omega)
    rw [compactUpTo_succ]
    by_cases hk : keeps d m = true
    · rw [if_pos hk]
      refine ⟨?_, fun x => ?_⟩
      · rw [List.pairwise_append]
        refine ⟨ih1, List.pairwise_singleton .., fun a ha b hb => ?_⟩
        obtain ⟨j, hj, rfl⟩ := (ih2 a).1 ha
        simp only [List.mem_singleton] at hb
        subst hb
        have hm0 : m ≠ 0 := by omega
        have hne : d[m]! ≠ d[m - 1]! := by simpa [keeps, hm0] using hk
        have h1 := hs j (m - 1) (by omega) (by omega)
        have h2 := hs (m - 1) m (by omega) (by omega)
        omega
      · rw [List.mem_append, ih2, List.mem_singleton]
        constructor
        · rintro (⟨j, hj, rfl⟩ | rfl)
          · exact ⟨j, by omega, rfl⟩
          · exact ⟨m, by omega, rfl⟩
        · rintro ⟨j, hj, rfl⟩
          by_cases he : j = m
          · right; rw [he]
          · exact .inl ⟨j, by omega, rfl⟩
    · rw [if_neg hk, List.append_nil]
      refine ⟨ih1, fun x => ?_⟩
      rw [ih2]
      constructor
      · rintro ⟨j, hj, rfl⟩; exact ⟨j, by omega, rfl⟩
      · rintro ⟨j, hj, rfl⟩
        by_cases he : j = m
        · subst he
          have hk' : ¬ (j = 0 ∨ d[j]! ≠ d[j - 1]!) := by simpa [keeps] using hk
          refine ⟨j - 1, by omega, ?_⟩
          have : ¬ d[j]! ≠ d[j - 1]! := fun h => hk' (.inr h)
          exact (Classical.not_not.1 this).symm
        · exact ⟨j, by omega, rfl⟩
/-- The numbers of a list, ascending, each once. -/
def ups (zs : List Int) : List Int := compact (zs.mergeSort fun x y => decide (x ≤ y))
theorem sort_up (zs : List Int) : (zs.mergeSort fun x y => decide (x ≤ y)).Pairwise (· ≤ ·) := by
  have := List.pairwise_mergeSort (le := fun x y : Int => decide (x ≤ y)) (fun a b c => by simp; omega) (fun a b => by simp; omega) zs
  exact this.imp fun h => by simpa using h
theorem ups_spec (zs : List Int) : (ups zs).Pairwise (· < ·) ∧ ∀ d, d ∈ ups zs ↔ d ∈ zs := by
  have hp := sort_up zs
  have hsize : (zs.mergeSort fun x y => decide (x ≤ y)).toArray.size = (zs.mergeSort fun x y => decide (x ≤ y)).length := by simp
  obtain ⟨h1, h2⟩ := compactUpTo_spec (zs.mergeSort fun x y => decide (x ≤ y)).toArray (fun i j hij hj => by
    rcases Nat.lt_or_eq_of_le hij with hlt | rfl
    · have := List.pairwise_iff_getElem.1 hp i j (by omega) (by omega) hlt
      rw [getElem!_pos _ i (by omega), getElem!_pos _ j (by omega)]
      simpa using this
    · exact Int.le_refl _) _ (Nat.le_of_eq hsize.symm)
  refine ⟨h1, fun d => ?_⟩
  unfold ups compact
  rw [h2]
  constructor
  · rintro ⟨j, hj, rfl⟩
    rw [getElem!_pos _ j (by omega)]
    have : (zs.mergeSort fun x y => decide (x ≤ y)).toArray[j]'(by omega) ∈ (zs.mergeSort fun x y => decide (x ≤ y)) := by simp
    exact List.mem_mergeSort.1 this
  · intro hd
    obtain ⟨j, hj, he⟩ := List.getElem_of_mem (List.mem_mergeSort.2 hd)
    refine ⟨j, hj, ?_⟩
    rw [getElem!_pos _ j (by simpa using hj)]
    simpa using he
theorem ups_eq {zs ys : List Int} (h : ys.Pairwise (· < ·)) (hm : ∀ d, d ∈ ys ↔ d ∈ zs) : ups zs = ys :=
  up_ext (ups_spec zs).1 h fun d => by rw [(ups_spec zs).2, hm]
theorem ups_nil : ups [] = [] := ups_eq List.Pairwise.nil fun _ => Iff.rfl
theorem ups_length (zs : List Int) : (ups zs).length ≤ zs.length := by
  have h : (zs.mergeSort fun x y => decide (x ≤ y)).length = zs.length := List.length_mergeSort zs
  unfold ups compact compactUpTo
  rw [List.length_map]
  exact Nat.le_trans (List.length_filter_le _ _) (by rw [List.length_range]; omega)
end Go.Proofs.YtconnjkkgaapbaaDoor.Cal
