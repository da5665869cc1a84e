/- Contracts of the kit's shelf at this program, laid by the kit's tool in plain words: slices.Sort and slices.Compact of numbers. -/
import Derived.Shelf.Sort.Plain
import Derived.Shelf.Slices.CompactI
import Derived.Shelf.Slices.In.SortNone
import Derived.Test.YtgagbfaodeakaabProg
namespace Go.Proofs
open Go.Shelf
def Try.lays189_ren : Go.Shelf.Ren := ⟨fun | 189 => 5 | 125 => 13 | 257 => 12 | 128 => 28 | 129 => 29 | 294 => 19 | 295 => 20 | 296 => 21 | 297 => 22 | 298 => 23 | 299 => 24 | 216 => 25 | 300 => 26 | 301 => 27 | 328 => 31 | 329 => 32 | 330 => 33 | 331 => 34 | 332 => 35 | 215 => 36 | 343 => 37 | n => n, fun | 28 => 22 | 3 => 3 | 46 => 35 | 0 => 0 | 51 => 51 | 53 => 53 | 4 => 4 | 183 => 43 | 182 => 42 | 131 => 48 | 5 => 5 | 9 => 9 | 218 => 56 | 222 => 60 | 228 => 63 | 229 => 64 | n => n, fun | n => n⟩
theorem Try.lays189 : Go.Proofs.Lays.n189 Try.prog Try.lays189_ren := {
  mixed := by kernel_rfl
  f125 := Try.func13.trans (congrArg some (by kernel_rfl))
  f128 := Try.func28.trans (congrArg some (by kernel_rfl))
  f129 := Try.func29.trans (congrArg some (by kernel_rfl))
  f189 := Try.func5.trans (congrArg some (by kernel_rfl))
  f215 := Try.func36.trans (congrArg some (by kernel_rfl))
  f216 := Try.func25.trans (congrArg some (by kernel_rfl))
  f257 := Try.func12.trans (congrArg some (by kernel_rfl))
  f294 := Try.func19.trans (congrArg some (by kernel_rfl))
  f295 := Try.func20.trans (congrArg some (by kernel_rfl))
  f296 := Try.func21.trans (congrArg some (by kernel_rfl))
  f297 := Try.func22.trans (congrArg some (by kernel_rfl))
  f298 := Try.func23.trans (congrArg some (by kernel_rfl))
  f299 := Try.func24.trans (congrArg some (by kernel_rfl))
  f300 := Try.func26.trans (congrArg some (by kernel_rfl))
  f301 := Try.func27.trans (congrArg some (by kernel_rfl))
  f328 := Try.func31.trans (congrArg some (by kernel_rfl))
  f329 := Try.func32.trans (congrArg some (by kernel_rfl))
  f330 := Try.func33.trans (congrArg some (by kernel_rfl))
  f331 := Try.func34.trans (congrArg some (by kernel_rfl))
  f332 := Try.func35.trans (congrArg some (by kernel_rfl))
  f343 := Try.func37.trans (congrArg some (by kernel_rfl))
  t0 := Try.underlying0
  a0 := Try.isAgg0
  z0 := Try.sizeOf0
  v0 := Try.zeroValue0
  t3 := Try.underlying3
  a3 := Try.isAgg3
  z3 := Try.sizeOf3
  v3 := Try.zeroValue3
  t4 := Try.underlying4
  a4 := Try.isAgg4
  z4 := Try.sizeOf4
  v4 := Try.zeroValue4
  t5 := Try.underlying5
  a5 := Try.isAgg5
  z5 := Try.sizeOf5
  v5 := Try.zeroValue5
  t9 := Try.underlying9
  a9 := Try.isAgg9
  z9 := Try.sizeOf9
  v9 := Try.zeroValue9
  t28 := Try.underlying22
  a28 := Try.isAgg22
  z28 := Try.sizeOf22
  v28 := Try.zeroValue22
  t46 := Try.underlying35
  a46 := Try.isAgg35
  z46 := Try.sizeOf35
  v46 := Try.zeroValue35
  t51 := Try.underlying51
  a51 := Try.isAgg51
  z51 := Try.sizeOf51
  v51 := Try.zeroValue51
  t53 := Try.underlying53
  a53 := Try.isAgg53
  z53 := Try.sizeOf53
  v53 := Try.zeroValue53
  t131 := Try.underlying48
  a131 := Try.isAgg48
  z131 := Try.sizeOf48
  v131 := Try.zeroValue48
  t182 := Try.underlying42
  a182 := Try.isAgg42
  z182 := Try.sizeOf42
  v182 := Try.zeroValue42
  t183 := Try.underlying43
  a183 := Try.isAgg43
  z183 := Try.sizeOf43
  v183 := Try.zeroValue43
  t218 := Try.underlying56
  a218 := Try.isAgg56
  z218 := Try.sizeOf56
  v218 := Try.zeroValue56
  t222 := Try.underlying60
  a222 := Try.isAgg60
  z222 := Try.sizeOf60
  v222 := Try.zeroValue60
  t228 := Try.underlying63
  a228 := Try.isAgg63
  z228 := Try.sizeOf63
  v228 := Try.zeroValue63
  t229 := Try.underlying64
  a229 := Try.isAgg64
  z229 := Try.sizeOf64
  v229 := Try.zeroValue64 }
open Go.Sort Go.RowKit in
theorem Try.slices_Sort_int (blk off cap : Nat) (zs : List Int) (w : World) (hH : Holds (Value.int .i64) w blk off zs.toArray) (hblk : blk < w.heap.size) (hsz : zs.length < 4611686018427387904) :
    Calls Try.prog 5 #[.slice (some ⟨blk, off, none⟩) zs.length cap] w fun e w' =>
      e = .returned (.tuple #[]) ∧ ∃ n os, w' = grow (putRow (Value.int .i64) (Sort.ahead w n) blk off (zs.mergeSort fun x y => decide (x ≤ y)).toArray) os := Any.slices_Sort_int Try.lays189 blk off cap zs w hH hblk hsz
def Try.laysNm220_ren : Go.Shelf.Ren := ⟨fun | 20 => 6 | n => n, fun | 22 => 22 | 3 => 3 | 4 => 4 | 0 => 0 | n => n, fun | n => n⟩
theorem Try.laysNm220 : Go.Proofs.Lays2.n20 Try.prog Try.laysNm220_ren := {
  mixed := by kernel_rfl
  f20 := Try.func6.trans (congrArg some (by kernel_rfl))
  t0 := Try.underlying0
  a0 := Try.isAgg0
  z0 := Try.sizeOf0
  v0 := Try.zeroValue0
  t3 := Try.underlying3
  a3 := Try.isAgg3
  z3 := Try.sizeOf3
  v3 := Try.zeroValue3
  t4 := Try.underlying4
  a4 := Try.isAgg4
  z4 := Try.sizeOf4
  v4 := Try.zeroValue4
  t22 := Try.underlying22
  a22 := Try.isAgg22
  z22 := Try.sizeOf22
  v22 := Try.zeroValue22
  i3 := by kernel_rfl }
open Go.RowKit Go.Lib Go.Sort in
theorem Try.slices_Compact_int_arr (blk off cap : Nat) (d : Array Int) (w : World) (hH : Holds encI w blk off d) (hsz : d.size ≤ 9223372036854775807) (hcap : d.size ≤ cap) :
    Calls Try.prog 6 #[.slice (some ⟨blk, off, none⟩) d.size cap] w fun e w' => e = .returned (.slice (some ⟨blk, off, none⟩) (compactUpTo d d.size).length cap) ∧ ∃ q, w' = putRow encI (Sort.ahead w q) blk off (compactUpTo d d.size ++ List.replicate (d.size - (compactUpTo d d.size).length) 0).toArray := Any.slices_Compact_int_arr Try.laysNm220 blk off cap d w hH hsz hcap
open Go.RowKit Go.Lib Go.Sort in
theorem Try.slices_Compact_int (blk off cap : Nat) (zs : List Int) (w : World) (hH : Holds (Value.int .i64) w blk off zs.toArray) (hsz : zs.length ≤ 9223372036854775807) (hcap : zs.length ≤ cap) :
    Calls Try.prog 6 #[.slice (some ⟨blk, off, none⟩) zs.length cap] w fun e w' => e = .returned (.slice (some ⟨blk, off, none⟩) (Lib.compact zs).length cap) ∧ ∃ q, w' = putRow (Value.int .i64) (Sort.ahead w q) blk off (Lib.compact zs ++ List.replicate (zs.length - (Lib.compact zs).length) 0).toArray := Any.slices_Compact_int Try.laysNm220 blk off cap zs w hH hsz hcap
open Go.RowKit Go.Lib Go.Sort in
theorem Try.slices_Compact_int_empty (a : Option Addr) (cap : Nat) (w : World) :
    Calls Try.prog 6 #[.slice a 0 cap] w fun e w' => e = .returned (.slice a 0 cap) ∧ w' = w := Any.slices_Compact_int_empty Try.laysNm220 a cap w

open Go.RowKit Go.Lib Go.Sort in
theorem Try.slices_Sort_int_none (p : Option Addr) (cap : Nat) (w : World) :
    Calls Try.prog 5 #[.slice p 0 cap] w fun e w' => e = .returned (.tuple #[]) ∧ w' = w := Any.slices_Sort_int_none Try.lays189 p cap w
end Go.Proofs
