/-
  slices.Sort at []string: the shelf's contract laid at this seat's dump by lay-shelf.mjs and lay-plain.mjs (Sort.Plain, SortNone): ITS NUMBERS ARE THIS SEAT'S: lay it anew for another seat.
-/
import Derived.Shelf.Sort.Plain
import Derived.Shelf.Slices.In.SortNone
import Derived.Test.YtmmmghpimdfleaaGreatDoorProg
namespace Go.Proofs
open Go.Shelf
def Tryz.lays190_ren : Go.Shelf.Ren := ⟨fun | 190 => 92 | 125 => 133 | 258 => 132 | 128 => 171 | 129 => 172 | 302 => 163 | 303 => 164 | 304 => 165 | 305 => 166 | 306 => 167 | 307 => 168 | 308 => 155 | 309 => 169 | 310 => 170 | 333 => 200 | 329 => 201 | 330 => 202 | 334 => 203 | 335 => 204 | 336 => 197 | 344 => 227 | n => n, fun | 31 => 27 | 9 => 9 | 3 => 3 | 46 => 164 | 0 => 0 | 51 => 207 | 53 => 228 | 4 => 4 | 183 => 221 | 182 => 220 | 131 => 171 | 5 => 5 | 218 => 257 | 222 => 261 | 228 => 278 | 229 => 279 | n => n, fun | n => n⟩
theorem Tryz.lays190 : Go.Proofs.Lays.n190 Tryz.prog Tryz.lays190_ren := {
  mixed := by kernel_rfl
  f125 := Tryz.func133.trans (congrArg some (by kernel_rfl))
  f128 := Tryz.func171.trans (congrArg some (by kernel_rfl))
  f129 := Tryz.func172.trans (congrArg some (by kernel_rfl))
  f190 := Tryz.func92.trans (congrArg some (by kernel_rfl))
  f258 := Tryz.func132.trans (congrArg some (by kernel_rfl))
  f302 := Tryz.func163.trans (congrArg some (by kernel_rfl))
  f303 := Tryz.func164.trans (congrArg some (by kernel_rfl))
  f304 := Tryz.func165.trans (congrArg some (by kernel_rfl))
  f305 := Tryz.func166.trans (congrArg some (by kernel_rfl))
  f306 := Tryz.func167.trans (congrArg some (by kernel_rfl))
  f307 := Tryz.func168.trans (congrArg some (by kernel_rfl))
  f308 := Tryz.func155.trans (congrArg some (by kernel_rfl))
  f309 := Tryz.func169.trans (congrArg some (by kernel_rfl))
  f310 := Tryz.func170.trans (congrArg some (by kernel_rfl))
  f329 := Tryz.func201.trans (congrArg some (by kernel_rfl))
  f330 := Tryz.func202.trans (congrArg some (by kernel_rfl))
  f333 := Tryz.func200.trans (congrArg some (by kernel_rfl))
  f334 := Tryz.func203.trans (congrArg some (by kernel_rfl))
  f335 := Tryz.func204.trans (congrArg some (by kernel_rfl))
  f336 := Tryz.func197.trans (congrArg some (by kernel_rfl))
  f344 := Tryz.func227.trans (congrArg some (by kernel_rfl))
  t0 := Tryz.underlying0
  a0 := Tryz.isAgg0
  z0 := Tryz.sizeOf0
  v0 := Tryz.zeroValue0
  t3 := Tryz.underlying3
  a3 := Tryz.isAgg3
  z3 := Tryz.sizeOf3
  v3 := Tryz.zeroValue3
  t4 := Tryz.underlying4
  a4 := Tryz.isAgg4
  z4 := Tryz.sizeOf4
  v4 := Tryz.zeroValue4
  t5 := Tryz.underlying5
  a5 := Tryz.isAgg5
  z5 := Tryz.sizeOf5
  v5 := Tryz.zeroValue5
  t9 := Tryz.underlying9
  a9 := Tryz.isAgg9
  z9 := Tryz.sizeOf9
  v9 := Tryz.zeroValue9
  t31 := Tryz.underlying27
  a31 := Tryz.isAgg27
  z31 := Tryz.sizeOf27
  v31 := Tryz.zeroValue27
  t46 := Tryz.underlying164
  a46 := Tryz.isAgg164
  z46 := Tryz.sizeOf164
  v46 := Tryz.zeroValue164
  t51 := Tryz.underlying207
  a51 := Tryz.isAgg207
  z51 := Tryz.sizeOf207
  v51 := Tryz.zeroValue207
  t53 := Tryz.underlying228
  a53 := Tryz.isAgg228
  z53 := Tryz.sizeOf228
  v53 := Tryz.zeroValue228
  t131 := Tryz.underlying171
  a131 := Tryz.isAgg171
  z131 := Tryz.sizeOf171
  v131 := Tryz.zeroValue171
  t182 := Tryz.underlying220
  a182 := Tryz.isAgg220
  z182 := Tryz.sizeOf220
  v182 := Tryz.zeroValue220
  t183 := Tryz.underlying221
  a183 := Tryz.isAgg221
  z183 := Tryz.sizeOf221
  v183 := Tryz.zeroValue221
  t218 := Tryz.underlying257
  a218 := Tryz.isAgg257
  z218 := Tryz.sizeOf257
  v218 := Tryz.zeroValue257
  t222 := Tryz.underlying261
  a222 := Tryz.isAgg261
  z222 := Tryz.sizeOf261
  v222 := Tryz.zeroValue261
  t228 := Tryz.underlying278
  a228 := Tryz.isAgg278
  z228 := Tryz.sizeOf278
  v228 := Tryz.zeroValue278
  t229 := Tryz.underlying279
  a229 := Tryz.isAgg279
  z229 := Tryz.sizeOf279
  v229 := Tryz.zeroValue279 }
open Go.Sort Go.RowKit in
theorem Tryz.slices_Sort_string (blk off cap : Nat) (ss : List (List UInt8)) (w : World) (hH : Holds encStr w blk off ss.toArray) (hblk : blk < w.heap.size) (hsz : ss.length < 4611686018427387904) :
    Calls Tryz.prog 92 #[.slice (some ⟨blk, off, none⟩) ss.length cap] w fun e w' =>
      e = .returned (.tuple #[]) ∧ ∃ n os, w' = grow (putRow encStr (Sort.ahead w n) blk off (ss.mergeSort fun x y => decide (x ≤ y)).toArray) os := Any.slices_Sort_string Tryz.lays190 blk off cap ss w hH hblk hsz
theorem Tryz.slices_Sort_none (p : Option Addr) (cap : Nat) (w : World) :
    Calls Tryz.prog 92 #[.slice p 0 cap] w fun e w' => e = .returned (.tuple #[]) ∧ w' = w := Any.slices_Sort_string_none Tryz.lays190 p cap w
end Go.Proofs
