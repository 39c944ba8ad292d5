/- The library's contracts at this program: laid by the kit's own tool, in plain words. -/
import Derived.Shelf.Small.Bits
import Derived.Shelf.Strconv.Itoa0
import Derived.Shelf.Sort.Plain
import Derived.Shelf.Slices.Turned
import Derived.Ground.Names2Prog
import Derived.Shelf.Slices.Clone
import Derived.Shelf.Slices.CompactI
import Derived.Shelf.Slices.CompactS
import Derived.Shelf.Slices.SearchI
import Derived.Shelf.Slices.Cells
import Derived.Shelf.Slices.In.SortNone
import Derived.Ground.SlgnProg
import Derived.Shelf.SlicesE.Equal
import Derived.Shelf.SlicesE.Compact
import Derived.Shelf.SlicesE.Clone
import Derived.Test.YtnhmnfmhnepjmaaGreatProg
namespace Go.Proofs.YtnhmnfmhnepjmaaGreat
open Go.Shelf
def Sh.lays189_ren : Go.Shelf.Ren := ⟨fun | 189 => 43 | 125 => 98 | 257 => 97 | 128 => 149 | 129 => 150 | 294 => 140 | 295 => 141 | 296 => 142 | 297 => 143 | 298 => 144 | 299 => 145 | 216 => 146 | 300 => 147 | 301 => 148 | 328 => 182 | 329 => 183 | 330 => 184 | 331 => 185 | 332 => 186 | 215 => 187 | 343 => 207 | n => n, fun | 28 => 29 | 3 => 3 | 46 => 154 | 0 => 0 | 51 => 215 | 53 => 217 | 4 => 4 | 183 => 207 | 182 => 206 | 131 => 212 | 5 => 5 | 9 => 9 | 218 => 250 | 222 => 254 | 228 => 269 | 229 => 270 | n => n, fun | n => n⟩
theorem Sh.lays189 : Go.Proofs.Lays.n189 Tryz.prog Sh.lays189_ren := {
  mixed := by kernel_rfl
  f125 := Tryz.func98.trans (congrArg some (by kernel_rfl))
  f128 := Tryz.func149.trans (congrArg some (by kernel_rfl))
  f129 := Tryz.func150.trans (congrArg some (by kernel_rfl))
  f189 := Tryz.func43.trans (congrArg some (by kernel_rfl))
  f215 := Tryz.func187.trans (congrArg some (by kernel_rfl))
  f216 := Tryz.func146.trans (congrArg some (by kernel_rfl))
  f257 := Tryz.func97.trans (congrArg some (by kernel_rfl))
  f294 := Tryz.func140.trans (congrArg some (by kernel_rfl))
  f295 := Tryz.func141.trans (congrArg some (by kernel_rfl))
  f296 := Tryz.func142.trans (congrArg some (by kernel_rfl))
  f297 := Tryz.func143.trans (congrArg some (by kernel_rfl))
  f298 := Tryz.func144.trans (congrArg some (by kernel_rfl))
  f299 := Tryz.func145.trans (congrArg some (by kernel_rfl))
  f300 := Tryz.func147.trans (congrArg some (by kernel_rfl))
  f301 := Tryz.func148.trans (congrArg some (by kernel_rfl))
  f328 := Tryz.func182.trans (congrArg some (by kernel_rfl))
  f329 := Tryz.func183.trans (congrArg some (by kernel_rfl))
  f330 := Tryz.func184.trans (congrArg some (by kernel_rfl))
  f331 := Tryz.func185.trans (congrArg some (by kernel_rfl))
  f332 := Tryz.func186.trans (congrArg some (by kernel_rfl))
  f343 := Tryz.func207.trans (congrArg some (by kernel_rfl))
  t0 := Tryz.underlying0
  a0 := Tryz.isAgg0
  z0 := Tryz.sizeOf0
  v0 := Tryz.zeroValue0
  t3 := Tryz.underlying3
  a3 := Tryz.isAgg3
  z3 := Tryz.sizeOf3
  v3 := Tryz.zeroValue3
  t4 := Tryz.underlying4
  a4 := Tryz.isAgg4
  z4 := Tryz.sizeOf4
  v4 := Tryz.zeroValue4
  t5 := Tryz.underlying5
  a5 := Tryz.isAgg5
  z5 := Tryz.sizeOf5
  v5 := Tryz.zeroValue5
  t9 := Tryz.underlying9
  a9 := Tryz.isAgg9
  z9 := Tryz.sizeOf9
  v9 := Tryz.zeroValue9
  t28 := Tryz.underlying29
  a28 := Tryz.isAgg29
  z28 := Tryz.sizeOf29
  v28 := Tryz.zeroValue29
  t46 := Tryz.underlying154
  a46 := Tryz.isAgg154
  z46 := Tryz.sizeOf154
  v46 := Tryz.zeroValue154
  t51 := Tryz.underlying215
  a51 := Tryz.isAgg215
  z51 := Tryz.sizeOf215
  v51 := Tryz.zeroValue215
  t53 := Tryz.underlying217
  a53 := Tryz.isAgg217
  z53 := Tryz.sizeOf217
  v53 := Tryz.zeroValue217
  t131 := Tryz.underlying212
  a131 := Tryz.isAgg212
  z131 := Tryz.sizeOf212
  v131 := Tryz.zeroValue212
  t182 := Tryz.underlying206
  a182 := Tryz.isAgg206
  z182 := Tryz.sizeOf206
  v182 := Tryz.zeroValue206
  t183 := Tryz.underlying207
  a183 := Tryz.isAgg207
  z183 := Tryz.sizeOf207
  v183 := Tryz.zeroValue207
  t218 := Tryz.underlying250
  a218 := Tryz.isAgg250
  z218 := Tryz.sizeOf250
  v218 := Tryz.zeroValue250
  t222 := Tryz.underlying254
  a222 := Tryz.isAgg254
  z222 := Tryz.sizeOf254
  v222 := Tryz.zeroValue254
  t228 := Tryz.underlying269
  a228 := Tryz.isAgg269
  z228 := Tryz.sizeOf269
  v228 := Tryz.zeroValue269
  t229 := Tryz.underlying270
  a229 := Tryz.isAgg270
  z229 := Tryz.sizeOf270
  v229 := Tryz.zeroValue270 }
open Go.Sort Go.RowKit in
theorem Sh.slices_Sort_int (blk off cap : Nat) (zs : List Int) (w : World) (hH : Holds (Value.int .i64) w blk off zs.toArray) (hblk : blk < w.heap.size) (hsz : zs.length < 4611686018427387904) :
    Calls Tryz.prog 43 #[.slice (some ⟨blk, off, none⟩) zs.length cap] w fun e w' =>
      e = .returned (.tuple #[]) ∧ ∃ n os, w' = grow (putRow (Value.int .i64) (Sort.ahead w n) blk off (zs.mergeSort fun x y => decide (x ≤ y)).toArray) os := Any.slices_Sort_int Sh.lays189 blk off cap zs w hH hblk hsz
def Sh.lays190_ren : Go.Shelf.Ren := ⟨fun | 190 => 236 | 125 => 98 | 258 => 238 | 128 => 149 | 129 => 150 | 302 => 239 | 303 => 240 | 304 => 241 | 305 => 242 | 306 => 243 | 307 => 244 | 308 => 245 | 309 => 246 | 310 => 247 | 333 => 248 | 329 => 183 | 330 => 184 | 334 => 249 | 335 => 250 | 336 => 251 | 344 => 252 | n => n, fun | 31 => 202 | 9 => 9 | 3 => 3 | 46 => 154 | 0 => 0 | 51 => 215 | 53 => 217 | 4 => 4 | 183 => 207 | 182 => 206 | 131 => 212 | 5 => 5 | 218 => 250 | 222 => 254 | 228 => 269 | 229 => 270 | n => n, fun | n => n⟩
theorem Sh.lays190 : Go.Proofs.Lays.n190 Tryz.prog Sh.lays190_ren := {
  mixed := by kernel_rfl
  f125 := Tryz.func98.trans (congrArg some (by kernel_rfl))
  f128 := Tryz.func149.trans (congrArg some (by kernel_rfl))
  f129 := Tryz.func150.trans (congrArg some (by kernel_rfl))
  f190 := Tryz.func236.trans (congrArg some (by kernel_rfl))
  f258 := Tryz.func238.trans (congrArg some (by kernel_rfl))
  f302 := Tryz.func239.trans (congrArg some (by kernel_rfl))
  f303 := Tryz.func240.trans (congrArg some (by kernel_rfl))
  f304 := Tryz.func241.trans (congrArg some (by kernel_rfl))
  f305 := Tryz.func242.trans (congrArg some (by kernel_rfl))
  f306 := Tryz.func243.trans (congrArg some (by kernel_rfl))
  f307 := Tryz.func244.trans (congrArg some (by kernel_rfl))
  f308 := Tryz.func245.trans (congrArg some (by kernel_rfl))
  f309 := Tryz.func246.trans (congrArg some (by kernel_rfl))
  f310 := Tryz.func247.trans (congrArg some (by kernel_rfl))
  f329 := Tryz.func183.trans (congrArg some (by kernel_rfl))
  f330 := Tryz.func184.trans (congrArg some (by kernel_rfl))
  f333 := Tryz.func248.trans (congrArg some (by kernel_rfl))
  f334 := Tryz.func249.trans (congrArg some (by kernel_rfl))
  f335 := Tryz.func250.trans (congrArg some (by kernel_rfl))
  f336 := Tryz.func251.trans (congrArg some (by kernel_rfl))
  f344 := Tryz.func252.trans (congrArg some (by kernel_rfl))
  t0 := Tryz.underlying0
  a0 := Tryz.isAgg0
  z0 := Tryz.sizeOf0
  v0 := Tryz.zeroValue0
  t3 := Tryz.underlying3
  a3 := Tryz.isAgg3
  z3 := Tryz.sizeOf3
  v3 := Tryz.zeroValue3
  t4 := Tryz.underlying4
  a4 := Tryz.isAgg4
  z4 := Tryz.sizeOf4
  v4 := Tryz.zeroValue4
  t5 := Tryz.underlying5
  a5 := Tryz.isAgg5
  z5 := Tryz.sizeOf5
  v5 := Tryz.zeroValue5
  t9 := Tryz.underlying9
  a9 := Tryz.isAgg9
  z9 := Tryz.sizeOf9
  v9 := Tryz.zeroValue9
  t31 := Tryz.underlying202
  a31 := Tryz.isAgg202
  z31 := Tryz.sizeOf202
  v31 := Tryz.zeroValue202
  t46 := Tryz.underlying154
  a46 := Tryz.isAgg154
  z46 := Tryz.sizeOf154
  v46 := Tryz.zeroValue154
  t51 := Tryz.underlying215
  a51 := Tryz.isAgg215
  z51 := Tryz.sizeOf215
  v51 := Tryz.zeroValue215
  t53 := Tryz.underlying217
  a53 := Tryz.isAgg217
  z53 := Tryz.sizeOf217
  v53 := Tryz.zeroValue217
  t131 := Tryz.underlying212
  a131 := Tryz.isAgg212
  z131 := Tryz.sizeOf212
  v131 := Tryz.zeroValue212
  t182 := Tryz.underlying206
  a182 := Tryz.isAgg206
  z182 := Tryz.sizeOf206
  v182 := Tryz.zeroValue206
  t183 := Tryz.underlying207
  a183 := Tryz.isAgg207
  z183 := Tryz.sizeOf207
  v183 := Tryz.zeroValue207
  t218 := Tryz.underlying250
  a218 := Tryz.isAgg250
  z218 := Tryz.sizeOf250
  v218 := Tryz.zeroValue250
  t222 := Tryz.underlying254
  a222 := Tryz.isAgg254
  z222 := Tryz.sizeOf254
  v222 := Tryz.zeroValue254
  t228 := Tryz.underlying269
  a228 := Tryz.isAgg269
  z228 := Tryz.sizeOf269
  v228 := Tryz.zeroValue269
  t229 := Tryz.underlying270
  a229 := Tryz.isAgg270
  z229 := Tryz.sizeOf270
  v229 := Tryz.zeroValue270 }
open Go.Sort Go.RowKit in
theorem Sh.slices_Sort_string (blk off cap : Nat) (ss : List (List UInt8)) (w : World) (hH : Holds encStr w blk off ss.toArray) (hblk : blk < w.heap.size) (hsz : ss.length < 4611686018427387904) :
    Calls Tryz.prog 236 #[.slice (some ⟨blk, off, none⟩) ss.length cap] w fun e w' =>
      e = .returned (.tuple #[]) ∧ ∃ n os, w' = grow (putRow encStr (Sort.ahead w n) blk off (ss.mergeSort fun x y => decide (x ≤ y)).toArray) os := Any.slices_Sort_string Sh.lays190 blk off cap ss w hH hblk hsz
def Sh.laysNm220_ren : Go.Shelf.Ren := ⟨fun | 20 => 44 | n => n, fun | 22 => 29 | 3 => 3 | 4 => 4 | 0 => 0 | n => n, fun | n => n⟩
theorem Sh.laysNm220 : Go.Proofs.Lays2.n20 Tryz.prog Sh.laysNm220_ren := {
  mixed := by kernel_rfl
  f20 := Tryz.func44.trans (congrArg some (by kernel_rfl))
  t0 := Tryz.underlying0
  a0 := Tryz.isAgg0
  z0 := Tryz.sizeOf0
  v0 := Tryz.zeroValue0
  t3 := Tryz.underlying3
  a3 := Tryz.isAgg3
  z3 := Tryz.sizeOf3
  v3 := Tryz.zeroValue3
  t4 := Tryz.underlying4
  a4 := Tryz.isAgg4
  z4 := Tryz.sizeOf4
  v4 := Tryz.zeroValue4
  t22 := Tryz.underlying29
  a22 := Tryz.isAgg29
  z22 := Tryz.sizeOf29
  v22 := Tryz.zeroValue29
  i3 := by kernel_rfl }
open Go.RowKit Go.Lib Go.Sort in
theorem Sh.slices_Compact_int (blk off cap : Nat) (zs : List Int) (w : World) (hH : Holds (Value.int .i64) w blk off zs.toArray) (hsz : zs.length ≤ 9223372036854775807) (hcap : zs.length ≤ cap) :
    Calls Tryz.prog 44 #[.slice (some ⟨blk, off, none⟩) zs.length cap] w fun e w' => e = .returned (.slice (some ⟨blk, off, none⟩) (Lib.compact zs).length cap) ∧ ∃ q, w' = putRow (Value.int .i64) (Sort.ahead w q) blk off (Lib.compact zs ++ List.replicate (zs.length - (Lib.compact zs).length) 0).toArray := Any.slices_Compact_int Sh.laysNm220 blk off cap zs w hH hsz hcap
open Go.RowKit Go.Lib Go.Sort in
theorem Sh.slices_Compact_int_empty (a : Option Addr) (cap : Nat) (w : World) :
    Calls Tryz.prog 44 #[.slice a 0 cap] w fun e w' => e = .returned (.slice a 0 cap) ∧ w' = w := Any.slices_Compact_int_empty Sh.laysNm220 a cap w
def Sh.lays194_ren : Go.Shelf.Ren := ⟨fun | 194 => 237 | n => n, fun | 31 => 202 | 9 => 9 | 3 => 3 | 4 => 4 | 0 => 0 | n => n, fun | n => n⟩
theorem Sh.lays194 : Go.Proofs.Lays.n194 Tryz.prog Sh.lays194_ren := {
  mixed := by kernel_rfl
  f194 := Tryz.func237.trans (congrArg some (by kernel_rfl))
  t0 := Tryz.underlying0
  a0 := Tryz.isAgg0
  z0 := Tryz.sizeOf0
  v0 := Tryz.zeroValue0
  t3 := Tryz.underlying3
  a3 := Tryz.isAgg3
  z3 := Tryz.sizeOf3
  v3 := Tryz.zeroValue3
  t4 := Tryz.underlying4
  a4 := Tryz.isAgg4
  z4 := Tryz.sizeOf4
  v4 := Tryz.zeroValue4
  t9 := Tryz.underlying9
  a9 := Tryz.isAgg9
  z9 := Tryz.sizeOf9
  v9 := Tryz.zeroValue9
  t31 := Tryz.underlying202
  a31 := Tryz.isAgg202
  z31 := Tryz.sizeOf202
  v31 := Tryz.zeroValue202 }
open Go.RowKit Go.Lib Go.Sort in
theorem Sh.slices_Compact_string (blk off cap : Nat) (zs : List (List UInt8)) (w : World) (hH : Holds encStr w blk off zs.toArray) (hsz : zs.length ≤ 9223372036854775807) (hcap : zs.length ≤ cap) :
    Calls Tryz.prog 237 #[.slice (some ⟨blk, off, none⟩) zs.length cap] w fun e w' => e = .returned (.slice (some ⟨blk, off, none⟩) (Lib.compact zs).length cap) ∧ ∃ q, w' = putRow encStr (Sort.ahead w q) blk off (Lib.compact zs ++ List.replicate (zs.length - (Lib.compact zs).length) []).toArray := Any.slices_Compact_string Sh.lays194 blk off cap zs w hH hsz hcap
open Go.RowKit Go.Lib Go.Sort in
theorem Sh.slices_Compact_string_empty (a : Option Addr) (cap : Nat) (w : World) :
    Calls Tryz.prog 237 #[.slice a 0 cap] w fun e w' => e = .returned (.slice a 0 cap) ∧ w' = w := Any.slices_Compact_string_empty Sh.lays194 a cap w
open Go.RowKit Go.Sort in
theorem Sh.slices_Sort_string_none (p : Option Addr) (cap : Nat) (w : World) :
    Calls Tryz.prog 236 #[.slice p 0 cap] w fun e w' => e = .returned (.tuple #[]) ∧ w' = w := Any.slices_Sort_string_none Sh.lays190 p cap w
open Go.RowKit Go.Sort in
theorem Sh.slices_Sort_int_none (p : Option Addr) (cap : Nat) (w : World) :
    Calls Tryz.prog 43 #[.slice p 0 cap] w fun e w' => e = .returned (.tuple #[]) ∧ w' = w := Any.slices_Sort_int_none Sh.lays189 p cap w
end Go.Proofs.YtnhmnfmhnepjmaaGreat
