/- The library's contracts at this program's numbers: each laying and each theorem as the shelf prints them in plain words. -/
import Derived.Shelf.Small.Strs
import Derived.Shelf.Strconv.Itoa0
import Derived.Shelf.Strings.Search1
import Derived.Shelf.Strings.Search2
import Derived.Shelf.Strings.Search3
import Derived.Shelf.Strings.Cut
import Derived.Shelf.Strings.Count
import Derived.Shelf.LaysM
import Derived.Shelf.Strings.Shaped
import Derived.Shelf.Strings.Split
import Derived.Shelf.Strings.SplitShaped
import Derived.Shelf.Unicode.DecodeSlow
import Derived.Test.YtdceflgemhcgcaaGreatDoorProg
set_option linter.unusedVariables false
set_option linter.unusedSimpArgs false
namespace Go.Proofs
open Go.Shelf
def Tryz.lays106_ren : Go.Shelf.Ren := ⟨fun | 106 => 207 | 213 => 249 | 265 => 310 | n => n, fun | 9 => 9 | 3 => 3 | n => n, fun | n => n⟩
theorem Tryz.lays106 : Go.Proofs.Lays.n106 Tryz.prog Tryz.lays106_ren := {
  mixed := by kernel_rfl
  f106 := Tryz.func207.trans (congrArg some (by kernel_rfl))
  f213 := Tryz.func249.trans (congrArg some (by kernel_rfl))
  f265 := Tryz.func310.trans (congrArg some (by kernel_rfl))
  t3 := Tryz.underlying3
  a3 := Tryz.isAgg3
  z3 := Tryz.sizeOf3
  v3 := Tryz.zeroValue3
  t9 := Tryz.underlying9
  a9 := Tryz.isAgg9
  z9 := Tryz.sizeOf9
  v9 := Tryz.zeroValue9 }
open Go.RowKit in
theorem Tryz.strings_Compare (a b : ByteArray) (w : World) :
    Calls Tryz.prog 207 #[.string a, .string b] w fun e w' => e = .returned (.int .i64 (Lib.compareBytes a.data.toList b.data.toList)) ∧ w' = w := Any.strings_Compare Tryz.lays106 a b w
def Tryz.lays145_ren : Go.Shelf.Ren := ⟨fun | 145 => 198 | 220 => 244 | 219 => 292 | 217 => 326 | 225 => 327 | 224 => 328 | 267 => 329 | 266 => 338 | 314 => 339 | n => n, fun | 9 => 9 | 4 => 4 | 59 => 290 | 3 => 3 | 5 => 5 | 46 => 297 | 146 => 401 | 51 => 344 | n => n, fun | 1 => 0 | n => n⟩
theorem Tryz.lays145 : Go.Proofs.Lays.n145 Tryz.prog Tryz.lays145_ren := {
  mixed := by kernel_rfl
  f145 := Tryz.func198.trans (congrArg some (by kernel_rfl))
  f217 := Tryz.func326.trans (congrArg some (by kernel_rfl))
  f219 := Tryz.func292.trans (congrArg some (by kernel_rfl))
  f220 := Tryz.func244.trans (congrArg some (by kernel_rfl))
  f224 := Tryz.func328.trans (congrArg some (by kernel_rfl))
  f225 := Tryz.func327.trans (congrArg some (by kernel_rfl))
  f266 := Tryz.func338.trans (congrArg some (by kernel_rfl))
  f267 := Tryz.func329.trans (congrArg some (by kernel_rfl))
  f314 := Tryz.func339.trans (congrArg some (by kernel_rfl))
  t3 := Tryz.underlying3
  a3 := Tryz.isAgg3
  z3 := Tryz.sizeOf3
  v3 := Tryz.zeroValue3
  t4 := Tryz.underlying4
  a4 := Tryz.isAgg4
  z4 := Tryz.sizeOf4
  v4 := Tryz.zeroValue4
  t5 := Tryz.underlying5
  a5 := Tryz.isAgg5
  z5 := Tryz.sizeOf5
  v5 := Tryz.zeroValue5
  t9 := Tryz.underlying9
  a9 := Tryz.isAgg9
  z9 := Tryz.sizeOf9
  v9 := Tryz.zeroValue9
  t46 := Tryz.underlying297
  a46 := Tryz.isAgg297
  z46 := Tryz.sizeOf297
  v46 := Tryz.zeroValue297
  t51 := Tryz.underlying344
  a51 := Tryz.isAgg344
  z51 := Tryz.sizeOf344
  v51 := Tryz.zeroValue344
  t59 := Tryz.underlying290
  a59 := Tryz.isAgg290
  z59 := Tryz.sizeOf290
  v59 := Tryz.zeroValue290
  t146 := Tryz.underlying401
  a146 := Tryz.isAgg401
  z146 := Tryz.sizeOf401
  v146 := Tryz.zeroValue401
  g1 := by kernel_rfl }
open Go.RowKit Go.Lib in
theorem Tryz.strings_Cut (s sep : ByteArray) (m : Int) (w : World) (hs : s.size < 4294967281) (hm : w.cell? ⟨0, 0, none⟩ = some (.int .i64 m)) :
    Calls Tryz.prog 198 #[.string s, .string sep] w fun e w' => e = .returned (.tuple #[.string ⟨(Lib.cut s.data.toList sep.data.toList).1.toArray⟩, .string ⟨(Lib.cut s.data.toList sep.data.toList).2.1.toArray⟩, .bool (Lib.cut s.data.toList sep.data.toList).2.2]) ∧ ∃ n, w' = w.drewN n := Any.strings_Cut Tryz.lays145 s sep m w hs hm
def Tryz.lays146_ren : Go.Shelf.Ren := ⟨fun | 146 => 113 | 221 => 197 | 268 => 241 | 138 => 242 | 143 => 243 | 195 => 289 | 197 => 290 | 218 => 291 | 219 => 292 | 260 => 325 | 217 => 326 | 225 => 327 | 224 => 328 | 267 => 329 | 266 => 338 | 314 => 339 | n => n, fun | 9 => 9 | 31 => 90 | 3 => 3 | 4 => 4 | 0 => 0 | 105 => 366 | 21 => 21 | 5 => 5 | 46 => 297 | 119 => 397 | 139 => 400 | 138 => 399 | 146 => 401 | 51 => 344 | n => n, fun | 1 => 0 | 3 => 1 | 4 => 2 | n => n⟩
theorem Tryz.lays146 : Go.Proofs.Lays.n146 Tryz.prog Tryz.lays146_ren := {
  mixed := by kernel_rfl
  f138 := Tryz.func242.trans (congrArg some (by kernel_rfl))
  f143 := Tryz.func243.trans (congrArg some (by kernel_rfl))
  f146 := Tryz.func113.trans (congrArg some (by kernel_rfl))
  f195 := Tryz.func289.trans (congrArg some (by kernel_rfl))
  f197 := Tryz.func290.trans (congrArg some (by kernel_rfl))
  f217 := Tryz.func326.trans (congrArg some (by kernel_rfl))
  f218 := Tryz.func291.trans (congrArg some (by kernel_rfl))
  f219 := Tryz.func292.trans (congrArg some (by kernel_rfl))
  f221 := Tryz.func197.trans (congrArg some (by kernel_rfl))
  f224 := Tryz.func328.trans (congrArg some (by kernel_rfl))
  f225 := Tryz.func327.trans (congrArg some (by kernel_rfl))
  f260 := Tryz.func325.trans (congrArg some (by kernel_rfl))
  f266 := Tryz.func338.trans (congrArg some (by kernel_rfl))
  f267 := Tryz.func329.trans (congrArg some (by kernel_rfl))
  f268 := Tryz.func241.trans (congrArg some (by kernel_rfl))
  f314 := Tryz.func339.trans (congrArg some (by kernel_rfl))
  t0 := Tryz.underlying0
  a0 := Tryz.isAgg0
  z0 := Tryz.sizeOf0
  v0 := Tryz.zeroValue0
  t3 := Tryz.underlying3
  a3 := Tryz.isAgg3
  z3 := Tryz.sizeOf3
  v3 := Tryz.zeroValue3
  t4 := Tryz.underlying4
  a4 := Tryz.isAgg4
  z4 := Tryz.sizeOf4
  v4 := Tryz.zeroValue4
  t5 := Tryz.underlying5
  a5 := Tryz.isAgg5
  z5 := Tryz.sizeOf5
  v5 := Tryz.zeroValue5
  t9 := Tryz.underlying9
  a9 := Tryz.isAgg9
  z9 := Tryz.sizeOf9
  v9 := Tryz.zeroValue9
  t21 := Tryz.underlying21
  a21 := Tryz.isAgg21
  z21 := Tryz.sizeOf21
  v21 := Tryz.zeroValue21
  t31 := Tryz.underlying90
  a31 := Tryz.isAgg90
  z31 := Tryz.sizeOf90
  v31 := Tryz.zeroValue90
  t46 := Tryz.underlying297
  a46 := Tryz.isAgg297
  z46 := Tryz.sizeOf297
  v46 := Tryz.zeroValue297
  t51 := Tryz.underlying344
  a51 := Tryz.isAgg344
  z51 := Tryz.sizeOf344
  v51 := Tryz.zeroValue344
  t105 := Tryz.underlying366
  a105 := Tryz.isAgg366
  z105 := Tryz.sizeOf366
  v105 := Tryz.zeroValue366
  t119 := Tryz.underlying397
  a119 := Tryz.isAgg397
  z119 := Tryz.sizeOf397
  t138 := Tryz.underlying399
  a138 := Tryz.isAgg399
  z138 := Tryz.sizeOf399
  v138 := Tryz.zeroValue399
  t139 := Tryz.underlying400
  a139 := Tryz.isAgg400
  z139 := Tryz.sizeOf400
  v139 := Tryz.zeroValue400
  t146 := Tryz.underlying401
  a146 := Tryz.isAgg401
  z146 := Tryz.sizeOf401
  v146 := Tryz.zeroValue401
  g1 := by kernel_rfl
  g3 := by kernel_rfl
  g4 := by kernel_rfl }
open Go.RowKit Go.Lib in
theorem Tryz.strings_Split (s sep : ByteArray) (m : Int) (w : World) (hs : s.size < 4294967281) (hm : w.cell? ⟨0, 0, none⟩ = some (.int .i64 m)) (h1 : 1 ≤ sep.size) :
    Calls Tryz.prog 113 #[.string s, .string sep] w fun e w' =>
      e = .returned (.slice (some ⟨w.heap.size, 0, none⟩) (Lib.countB s sep + 1) (Lib.countB s sep + 1)) ∧ w' = w.alloc (.cells ((Lib.splitB sep 0 (Lib.countB s sep) s).map Value.string).toArray 9) := Any.strings_Split Tryz.lays146 (by kernel_rfl) s sep m w hs hm h1
end Go.Proofs
