/- The library's contracts at this program: laid by the kit's own tool, in plain words. -/
import Derived.Shelf.Sort.Plain
import Derived.Shelf.Slices.CompactS
import Derived.Shelf.Slices.In.SortNone
import Derived.Test.YtjkfmihbmkbjfaaGreatProg
namespace Go.Proofs.YtjkfmihbmkbjfaaGreat
open Go.Shelf
def Sh.lays190_ren : Go.Shelf.Ren := ⟨fun | 190 => 218 | 125 => 224 | 258 => 223 | 128 => 235 | 129 => 236 | 302 => 226 | 303 => 227 | 304 => 228 | 305 => 229 | 306 => 230 | 307 => 231 | 308 => 232 | 309 => 233 | 310 => 234 | 333 => 238 | 329 => 239 | 330 => 240 | 334 => 241 | 335 => 242 | 336 => 243 | 344 => 244 | n => n, fun | 31 => 118 | 9 => 9 | 3 => 3 | 46 => 260 | 0 => 0 | 51 => 270 | 53 => 272 | 4 => 4 | 183 => 263 | 182 => 262 | 131 => 256 | 5 => 5 | 218 => 273 | 222 => 277 | 228 => 279 | 229 => 280 | n => n, fun | n => n⟩
theorem Sh.lays190 : Go.Proofs.Lays.n190 Tryz.prog Sh.lays190_ren := {
  mixed := by kernel_rfl
  f125 := Tryz.func224.trans (congrArg some (by kernel_rfl))
  f128 := Tryz.func235.trans (congrArg some (by kernel_rfl))
  f129 := Tryz.func236.trans (congrArg some (by kernel_rfl))
  f190 := Tryz.func218.trans (congrArg some (by kernel_rfl))
  f258 := Tryz.func223.trans (congrArg some (by kernel_rfl))
  f302 := Tryz.func226.trans (congrArg some (by kernel_rfl))
  f303 := Tryz.func227.trans (congrArg some (by kernel_rfl))
  f304 := Tryz.func228.trans (congrArg some (by kernel_rfl))
  f305 := Tryz.func229.trans (congrArg some (by kernel_rfl))
  f306 := Tryz.func230.trans (congrArg some (by kernel_rfl))
  f307 := Tryz.func231.trans (congrArg some (by kernel_rfl))
  f308 := Tryz.func232.trans (congrArg some (by kernel_rfl))
  f309 := Tryz.func233.trans (congrArg some (by kernel_rfl))
  f310 := Tryz.func234.trans (congrArg some (by kernel_rfl))
  f329 := Tryz.func239.trans (congrArg some (by kernel_rfl))
  f330 := Tryz.func240.trans (congrArg some (by kernel_rfl))
  f333 := Tryz.func238.trans (congrArg some (by kernel_rfl))
  f334 := Tryz.func241.trans (congrArg some (by kernel_rfl))
  f335 := Tryz.func242.trans (congrArg some (by kernel_rfl))
  f336 := Tryz.func243.trans (congrArg some (by kernel_rfl))
  f344 := Tryz.func244.trans (congrArg some (by kernel_rfl))
  t0 := Tryz.underlying0
  a0 := Tryz.isAgg0
  z0 := Tryz.sizeOf0
  v0 := Tryz.zeroValue0
  t3 := Tryz.underlying3
  a3 := Tryz.isAgg3
  z3 := Tryz.sizeOf3
  v3 := Tryz.zeroValue3
  t4 := Tryz.underlying4
  a4 := Tryz.isAgg4
  z4 := Tryz.sizeOf4
  v4 := Tryz.zeroValue4
  t5 := Tryz.underlying5
  a5 := Tryz.isAgg5
  z5 := Tryz.sizeOf5
  v5 := Tryz.zeroValue5
  t9 := Tryz.underlying9
  a9 := Tryz.isAgg9
  z9 := Tryz.sizeOf9
  v9 := Tryz.zeroValue9
  t31 := Tryz.underlying118
  a31 := Tryz.isAgg118
  z31 := Tryz.sizeOf118
  v31 := Tryz.zeroValue118
  t46 := Tryz.underlying260
  a46 := Tryz.isAgg260
  z46 := Tryz.sizeOf260
  v46 := Tryz.zeroValue260
  t51 := Tryz.underlying270
  a51 := Tryz.isAgg270
  z51 := Tryz.sizeOf270
  v51 := Tryz.zeroValue270
  t53 := Tryz.underlying272
  a53 := Tryz.isAgg272
  z53 := Tryz.sizeOf272
  v53 := Tryz.zeroValue272
  t131 := Tryz.underlying256
  a131 := Tryz.isAgg256
  z131 := Tryz.sizeOf256
  v131 := Tryz.zeroValue256
  t182 := Tryz.underlying262
  a182 := Tryz.isAgg262
  z182 := Tryz.sizeOf262
  v182 := Tryz.zeroValue262
  t183 := Tryz.underlying263
  a183 := Tryz.isAgg263
  z183 := Tryz.sizeOf263
  v183 := Tryz.zeroValue263
  t218 := Tryz.underlying273
  a218 := Tryz.isAgg273
  z218 := Tryz.sizeOf273
  v218 := Tryz.zeroValue273
  t222 := Tryz.underlying277
  a222 := Tryz.isAgg277
  z222 := Tryz.sizeOf277
  v222 := Tryz.zeroValue277
  t228 := Tryz.underlying279
  a228 := Tryz.isAgg279
  z228 := Tryz.sizeOf279
  v228 := Tryz.zeroValue279
  t229 := Tryz.underlying280
  a229 := Tryz.isAgg280
  z229 := Tryz.sizeOf280
  v229 := Tryz.zeroValue280 }
open Go.Sort Go.RowKit in
theorem Sh.slices_Sort_string (blk off cap : Nat) (ss : List (List UInt8)) (w : World) (hH : Holds encStr w blk off ss.toArray) (hblk : blk < w.heap.size) (hsz : ss.length < 4611686018427387904) :
    Calls Tryz.prog 218 #[.slice (some ⟨blk, off, none⟩) ss.length cap] w fun e w' =>
      e = .returned (.tuple #[]) ∧ ∃ n os, w' = grow (putRow encStr (Sort.ahead w n) blk off (ss.mergeSort fun x y => decide (x ≤ y)).toArray) os := Any.slices_Sort_string Sh.lays190 blk off cap ss w hH hblk hsz
def Sh.lays194_ren : Go.Shelf.Ren := ⟨fun | 194 => 219 | n => n, fun | 31 => 118 | 9 => 9 | 3 => 3 | 4 => 4 | 0 => 0 | n => n, fun | n => n⟩
theorem Sh.lays194 : Go.Proofs.Lays.n194 Tryz.prog Sh.lays194_ren := {
  mixed := by kernel_rfl
  f194 := Tryz.func219.trans (congrArg some (by kernel_rfl))
  t0 := Tryz.underlying0
  a0 := Tryz.isAgg0
  z0 := Tryz.sizeOf0
  v0 := Tryz.zeroValue0
  t3 := Tryz.underlying3
  a3 := Tryz.isAgg3
  z3 := Tryz.sizeOf3
  v3 := Tryz.zeroValue3
  t4 := Tryz.underlying4
  a4 := Tryz.isAgg4
  z4 := Tryz.sizeOf4
  v4 := Tryz.zeroValue4
  t9 := Tryz.underlying9
  a9 := Tryz.isAgg9
  z9 := Tryz.sizeOf9
  v9 := Tryz.zeroValue9
  t31 := Tryz.underlying118
  a31 := Tryz.isAgg118
  z31 := Tryz.sizeOf118
  v31 := Tryz.zeroValue118 }
open Go.RowKit Go.Lib Go.Sort in
theorem Sh.slices_Compact_string_arr (blk off cap : Nat) (d : Array (List UInt8)) (w : World) (hH : Holds encStr w blk off d) (hsz : d.size ≤ 9223372036854775807) (hcap : d.size ≤ cap) :
    Calls Tryz.prog 219 #[.slice (some ⟨blk, off, none⟩) d.size cap] w fun e w' => e = .returned (.slice (some ⟨blk, off, none⟩) (compactUpTo d d.size).length cap) ∧ ∃ q, w' = putRow encStr (Sort.ahead w q) blk off (compactUpTo d d.size ++ List.replicate (d.size - (compactUpTo d d.size).length) []).toArray := Any.slices_Compact_string_arr Sh.lays194 blk off cap d w hH hsz hcap
open Go.RowKit Go.Lib Go.Sort in
theorem Sh.slices_Compact_string (blk off cap : Nat) (zs : List (List UInt8)) (w : World) (hH : Holds encStr w blk off zs.toArray) (hsz : zs.length ≤ 9223372036854775807) (hcap : zs.length ≤ cap) :
    Calls Tryz.prog 219 #[.slice (some ⟨blk, off, none⟩) zs.length cap] w fun e w' => e = .returned (.slice (some ⟨blk, off, none⟩) (Lib.compact zs).length cap) ∧ ∃ q, w' = putRow encStr (Sort.ahead w q) blk off (Lib.compact zs ++ List.replicate (zs.length - (Lib.compact zs).length) []).toArray := Any.slices_Compact_string Sh.lays194 blk off cap zs w hH hsz hcap
open Go.RowKit Go.Lib Go.Sort in
theorem Sh.slices_Compact_string_empty (a : Option Addr) (cap : Nat) (w : World) :
    Calls Tryz.prog 219 #[.slice a 0 cap] w fun e w' => e = .returned (.slice a 0 cap) ∧ w' = w := Any.slices_Compact_string_empty Sh.lays194 a cap w
open Go.RowKit Go.Sort in
theorem Sh.slices_Sort_string_none (p : Option Addr) (cap : Nat) (w : World) :
    Calls Tryz.prog 218 #[.slice p 0 cap] w fun e w' => e = .returned (.tuple #[]) ∧ w' = w := Any.slices_Sort_string_none Sh.lays190 p cap w
end Go.Proofs.YtjkfmihbmkbjfaaGreat
