/- The library's contracts at this program's numbers: each laying and each theorem as the shelf prints them in plain words. -/
import Derived.Shelf.Small.Strs
import Derived.Shelf.Strconv.Itoa0
import Derived.Shelf.Strings.Search1
import Derived.Shelf.Strings.Search2
import Derived.Shelf.Strings.Search3
import Derived.Shelf.Strings.Cut
import Derived.Shelf.Strings.Count
import Derived.Shelf.LaysM
import Derived.Shelf.Strings.Shaped
import Derived.Shelf.Strings.Split
import Derived.Shelf.Strings.SplitShaped
import Derived.Shelf.Unicode.DecodeSlow
import Derived.Test.YtmenipaibjifiaaGreatDoorProg
set_option linter.unusedVariables false
set_option linter.unusedSimpArgs false
namespace Go.Proofs
open Go.Shelf
def Tryz.lays213_ren : Go.Shelf.Ren := ⟨fun | 213 => 266 | 265 => 309 | n => n, fun | 9 => 9 | 3 => 3 | n => n, fun | n => n⟩
theorem Tryz.lays213 : Go.Proofs.Lays.n213 Tryz.prog Tryz.lays213_ren := {
  mixed := by kernel_rfl
  f213 := Tryz.func266.trans (congrArg some (by kernel_rfl))
  f265 := Tryz.func309.trans (congrArg some (by kernel_rfl))
  t3 := Tryz.underlying3
  a3 := Tryz.isAgg3
  z3 := Tryz.sizeOf3
  v3 := Tryz.zeroValue3
  t9 := Tryz.underlying9
  a9 := Tryz.isAgg9
  z9 := Tryz.sizeOf9
  v9 := Tryz.zeroValue9 }
open Go.RowKit in
theorem Tryz.bytealg_CompareString (a b : ByteArray) (w : World) :
    Calls Tryz.prog 266 #[.string a, .string b] w fun e w' => e = .returned (.int .i64 (Lib.compareBytes a.data.toList b.data.toList)) ∧ w' = w := Any.bytealg_CompareString Tryz.lays213 a b w
def Tryz.lays106_ren : Go.Shelf.Ren := ⟨fun | 106 => 237 | 213 => 266 | 265 => 309 | n => n, fun | 9 => 9 | 3 => 3 | n => n, fun | n => n⟩
theorem Tryz.lays106 : Go.Proofs.Lays.n106 Tryz.prog Tryz.lays106_ren := {
  mixed := by kernel_rfl
  f106 := Tryz.func237.trans (congrArg some (by kernel_rfl))
  f213 := Tryz.func266.trans (congrArg some (by kernel_rfl))
  f265 := Tryz.func309.trans (congrArg some (by kernel_rfl))
  t3 := Tryz.underlying3
  a3 := Tryz.isAgg3
  z3 := Tryz.sizeOf3
  v3 := Tryz.zeroValue3
  t9 := Tryz.underlying9
  a9 := Tryz.isAgg9
  z9 := Tryz.sizeOf9
  v9 := Tryz.zeroValue9 }
open Go.RowKit in
theorem Tryz.strings_Compare (a b : ByteArray) (w : World) :
    Calls Tryz.prog 237 #[.string a, .string b] w fun e w' => e = .returned (.int .i64 (Lib.compareBytes a.data.toList b.data.toList)) ∧ w' = w := Any.strings_Compare Tryz.lays106 a b w
def Tryz.lays129_ren : Go.Shelf.Ren := ⟨fun | 129 => 257 | n => n, fun | 53 => 163 | 3 => 3 | 4 => 4 | 46 => 339 | 5 => 5 | 9 => 9 | n => n, fun | n => n⟩
theorem Tryz.lays129 : Go.Proofs.Lays.n129 Tryz.prog Tryz.lays129_ren := {
  mixed := by kernel_rfl
  f129 := Tryz.func257.trans (congrArg some (by kernel_rfl))
  t3 := Tryz.underlying3
  a3 := Tryz.isAgg3
  z3 := Tryz.sizeOf3
  v3 := Tryz.zeroValue3
  t4 := Tryz.underlying4
  a4 := Tryz.isAgg4
  z4 := Tryz.sizeOf4
  v4 := Tryz.zeroValue4
  t5 := Tryz.underlying5
  a5 := Tryz.isAgg5
  z5 := Tryz.sizeOf5
  v5 := Tryz.zeroValue5
  t9 := Tryz.underlying9
  a9 := Tryz.isAgg9
  z9 := Tryz.sizeOf9
  v9 := Tryz.zeroValue9
  t46 := Tryz.underlying339
  a46 := Tryz.isAgg339
  z46 := Tryz.sizeOf339
  v46 := Tryz.zeroValue339
  t53 := Tryz.underlying163
  a53 := Tryz.isAgg163
  z53 := Tryz.sizeOf163
  v53 := Tryz.zeroValue163 }
theorem Tryz.bits_Len64 (x : Int) (w : World) (h0 : 0 ≤ x) (h1 : x ≤ 18446744073709551615) :
    Calls Tryz.prog 257 #[.int .u64 x] w fun e w' => e = .returned (.int .i64 (Lib.bitLen x.toNat)) ∧ w' = w := Any.bits_Len64 Tryz.lays129 x w h0 h1
def Tryz.lays217_ren : Go.Shelf.Ren := ⟨fun | 217 => 318 | 266 => 329 | n => n, fun | 9 => 9 | 5 => 5 | 3 => 3 | n => n, fun | n => n⟩
theorem Tryz.lays217 : Go.Proofs.Lays.n217 Tryz.prog Tryz.lays217_ren := {
  mixed := by kernel_rfl
  f217 := Tryz.func318.trans (congrArg some (by kernel_rfl))
  f266 := Tryz.func329.trans (congrArg some (by kernel_rfl))
  t3 := Tryz.underlying3
  a3 := Tryz.isAgg3
  z3 := Tryz.sizeOf3
  v3 := Tryz.zeroValue3
  t5 := Tryz.underlying5
  a5 := Tryz.isAgg5
  z5 := Tryz.sizeOf5
  v5 := Tryz.zeroValue5
  t9 := Tryz.underlying9
  a9 := Tryz.isAgg9
  z9 := Tryz.sizeOf9
  v9 := Tryz.zeroValue9 }
open Go.RowKit Go.Lib in
theorem Tryz.stringslite_IndexByte (s : ByteArray) (c : Int) (w : World) :
    Calls Tryz.prog 318 #[.string s, .int .u8 c] w fun e w' => e = .returned (.int .i64 (Lib.indexByte s.data.toList c.toNat.toUInt8)) ∧ w' = w := Any.stringslite_IndexByte Tryz.lays217 s c w
def Tryz.lays224_ren : Go.Shelf.Ren := ⟨fun | 224 => 320 | n => n, fun | 3 => 3 | n => n, fun | n => n⟩
theorem Tryz.lays224 : Go.Proofs.Lays.n224 Tryz.prog Tryz.lays224_ren := {
  mixed := by kernel_rfl
  f224 := Tryz.func320.trans (congrArg some (by kernel_rfl))
  t3 := Tryz.underlying3
  a3 := Tryz.isAgg3
  z3 := Tryz.sizeOf3
  v3 := Tryz.zeroValue3 }
open Go.RowKit Go.Lib in
theorem Tryz.bytealg_Cutover (n : Int) (h0 : 0 ≤ n) (h1 : n < 4611686018427387904) (w : World) :
    Calls Tryz.prog 320 #[.int .i64 n] w fun e w' => e = .returned (.int .i64 ((n + 16) / 8)) ∧ w' = w := Any.bytealg_Cutover Tryz.lays224 n h0 h1 w
def Tryz.lays314_ren : Go.Shelf.Ren := ⟨fun | 314 => 330 | n => n, fun | 9 => 9 | 51 => 363 | 3 => 3 | 4 => 4 | 5 => 5 | 46 => 339 | n => n, fun | n => n⟩
theorem Tryz.lays314 : Go.Proofs.Lays.n314 Tryz.prog Tryz.lays314_ren := {
  mixed := by kernel_rfl
  f314 := Tryz.func330.trans (congrArg some (by kernel_rfl))
  t3 := Tryz.underlying3
  a3 := Tryz.isAgg3
  z3 := Tryz.sizeOf3
  v3 := Tryz.zeroValue3
  t4 := Tryz.underlying4
  a4 := Tryz.isAgg4
  z4 := Tryz.sizeOf4
  v4 := Tryz.zeroValue4
  t5 := Tryz.underlying5
  a5 := Tryz.isAgg5
  z5 := Tryz.sizeOf5
  v5 := Tryz.zeroValue5
  t9 := Tryz.underlying9
  a9 := Tryz.isAgg9
  z9 := Tryz.sizeOf9
  v9 := Tryz.zeroValue9
  t46 := Tryz.underlying339
  a46 := Tryz.isAgg339
  z46 := Tryz.sizeOf339
  v46 := Tryz.zeroValue339
  t51 := Tryz.underlying363
  a51 := Tryz.isAgg363
  z51 := Tryz.sizeOf363
  v51 := Tryz.zeroValue363 }
open Go.RowKit Go.Lib in
theorem Tryz.bytealg_hashStr (sep : ByteArray) (hs : sep.size < 4294967281) (w : World) :
    Calls Tryz.prog 330 #[.string sep] w fun e w' => e = .returned (.tuple #[.int .u32 (RK.H sep.data.toList % 4294967296), .int .u32 (16777619 ^ sep.size % 4294967296)]) ∧ w' = w := Any.bytealg_hashStr Tryz.lays314 sep hs w
def Tryz.lays267_ren : Go.Shelf.Ren := ⟨fun | 267 => 321 | 314 => 330 | n => n, fun | 9 => 9 | 3 => 3 | 146 => 421 | 51 => 363 | 4 => 4 | 5 => 5 | 46 => 339 | n => n, fun | n => n⟩
theorem Tryz.lays267 : Go.Proofs.Lays.n267 Tryz.prog Tryz.lays267_ren := {
  mixed := by kernel_rfl
  f267 := Tryz.func321.trans (congrArg some (by kernel_rfl))
  f314 := Tryz.func330.trans (congrArg some (by kernel_rfl))
  t3 := Tryz.underlying3
  a3 := Tryz.isAgg3
  z3 := Tryz.sizeOf3
  v3 := Tryz.zeroValue3
  t4 := Tryz.underlying4
  a4 := Tryz.isAgg4
  z4 := Tryz.sizeOf4
  v4 := Tryz.zeroValue4
  t5 := Tryz.underlying5
  a5 := Tryz.isAgg5
  z5 := Tryz.sizeOf5
  v5 := Tryz.zeroValue5
  t9 := Tryz.underlying9
  a9 := Tryz.isAgg9
  z9 := Tryz.sizeOf9
  v9 := Tryz.zeroValue9
  t46 := Tryz.underlying339
  a46 := Tryz.isAgg339
  z46 := Tryz.sizeOf339
  v46 := Tryz.zeroValue339
  t51 := Tryz.underlying363
  a51 := Tryz.isAgg363
  z51 := Tryz.sizeOf363
  v51 := Tryz.zeroValue363
  t146 := Tryz.underlying421
  a146 := Tryz.isAgg421
  z146 := Tryz.sizeOf421
  v146 := Tryz.zeroValue421 }
open Go.RowKit Go.Lib in
theorem Tryz.bytealg_IndexRabinKarp (s sep : ByteArray) (h1 : 1 ≤ sep.size) (h2 : sep.size ≤ s.size) (hs : s.size < 4294967281) (w : World) :
    Calls Tryz.prog 321 #[.string s, .string sep] w fun e w' => e = .returned (.int .i64 (Lib.index s.data.toList sep.data.toList)) ∧ w' = w := Any.bytealg_IndexRabinKarp Tryz.lays267 s sep h1 h2 hs w
def Tryz.lays219_ren : Go.Shelf.Ren := ⟨fun | 219 => 291 | 217 => 318 | 225 => 319 | 224 => 320 | 267 => 321 | 266 => 329 | 314 => 330 | n => n, fun | 9 => 9 | 3 => 3 | 4 => 4 | 5 => 5 | 46 => 339 | 146 => 421 | 51 => 363 | n => n, fun | 1 => 0 | n => n⟩
theorem Tryz.lays219 : Go.Proofs.Lays.n219 Tryz.prog Tryz.lays219_ren := {
  mixed := by kernel_rfl
  f217 := Tryz.func318.trans (congrArg some (by kernel_rfl))
  f219 := Tryz.func291.trans (congrArg some (by kernel_rfl))
  f224 := Tryz.func320.trans (congrArg some (by kernel_rfl))
  f225 := Tryz.func319.trans (congrArg some (by kernel_rfl))
  f266 := Tryz.func329.trans (congrArg some (by kernel_rfl))
  f267 := Tryz.func321.trans (congrArg some (by kernel_rfl))
  f314 := Tryz.func330.trans (congrArg some (by kernel_rfl))
  t3 := Tryz.underlying3
  a3 := Tryz.isAgg3
  z3 := Tryz.sizeOf3
  v3 := Tryz.zeroValue3
  t4 := Tryz.underlying4
  a4 := Tryz.isAgg4
  z4 := Tryz.sizeOf4
  v4 := Tryz.zeroValue4
  t5 := Tryz.underlying5
  a5 := Tryz.isAgg5
  z5 := Tryz.sizeOf5
  v5 := Tryz.zeroValue5
  t9 := Tryz.underlying9
  a9 := Tryz.isAgg9
  z9 := Tryz.sizeOf9
  v9 := Tryz.zeroValue9
  t46 := Tryz.underlying339
  a46 := Tryz.isAgg339
  z46 := Tryz.sizeOf339
  v46 := Tryz.zeroValue339
  t51 := Tryz.underlying363
  a51 := Tryz.isAgg363
  z51 := Tryz.sizeOf363
  v51 := Tryz.zeroValue363
  t146 := Tryz.underlying421
  a146 := Tryz.isAgg421
  z146 := Tryz.sizeOf421
  v146 := Tryz.zeroValue421
  g1 := by kernel_rfl }
open Go.RowKit Go.Lib in
theorem Tryz.stringslite_Index_one (s : ByteArray) (c : UInt8) (w : World) :
    Calls Tryz.prog 291 #[.string s, .string ⟨#[c]⟩] w fun e w' => e = .returned (.int .i64 (Lib.indexByte s.data.toList c)) ∧ w' = w := Any.stringslite_Index_one Tryz.lays219 s c w
open Go.RowKit Go.Lib in
theorem Tryz.stringslite_Index (s sub : ByteArray) (m : Int) (w : World) (hs : s.size < 4294967281) (hm : w.cell? ⟨0, 0, none⟩ = some (.int .i64 m)) :
    Calls Tryz.prog 291 #[.string s, .string sub] w fun e w' => e = .returned (.int .i64 (Lib.index s.data.toList sub.data.toList)) ∧ w' = w := Any.stringslite_Index Tryz.lays219 s sub m w hs hm
def Tryz.lays143_ren : Go.Shelf.Ren := ⟨fun | 143 => 260 | 219 => 291 | 217 => 318 | 225 => 319 | 224 => 320 | 267 => 321 | 266 => 329 | 314 => 330 | n => n, fun | 9 => 9 | 3 => 3 | 4 => 4 | 5 => 5 | 46 => 339 | 146 => 421 | 51 => 363 | n => n, fun | 1 => 0 | n => n⟩
theorem Tryz.lays143 : Go.Proofs.Lays.n143 Tryz.prog Tryz.lays143_ren := {
  mixed := by kernel_rfl
  f143 := Tryz.func260.trans (congrArg some (by kernel_rfl))
  f217 := Tryz.func318.trans (congrArg some (by kernel_rfl))
  f219 := Tryz.func291.trans (congrArg some (by kernel_rfl))
  f224 := Tryz.func320.trans (congrArg some (by kernel_rfl))
  f225 := Tryz.func319.trans (congrArg some (by kernel_rfl))
  f266 := Tryz.func329.trans (congrArg some (by kernel_rfl))
  f267 := Tryz.func321.trans (congrArg some (by kernel_rfl))
  f314 := Tryz.func330.trans (congrArg some (by kernel_rfl))
  t3 := Tryz.underlying3
  a3 := Tryz.isAgg3
  z3 := Tryz.sizeOf3
  v3 := Tryz.zeroValue3
  t4 := Tryz.underlying4
  a4 := Tryz.isAgg4
  z4 := Tryz.sizeOf4
  v4 := Tryz.zeroValue4
  t5 := Tryz.underlying5
  a5 := Tryz.isAgg5
  z5 := Tryz.sizeOf5
  v5 := Tryz.zeroValue5
  t9 := Tryz.underlying9
  a9 := Tryz.isAgg9
  z9 := Tryz.sizeOf9
  v9 := Tryz.zeroValue9
  t46 := Tryz.underlying339
  a46 := Tryz.isAgg339
  z46 := Tryz.sizeOf339
  v46 := Tryz.zeroValue339
  t51 := Tryz.underlying363
  a51 := Tryz.isAgg363
  z51 := Tryz.sizeOf363
  v51 := Tryz.zeroValue363
  t146 := Tryz.underlying421
  a146 := Tryz.isAgg421
  z146 := Tryz.sizeOf421
  v146 := Tryz.zeroValue421
  g1 := by kernel_rfl }
open Go.RowKit Go.Lib in
theorem Tryz.strings_Index_one (s : ByteArray) (c : UInt8) (w : World) :
    Calls Tryz.prog 260 #[.string s, .string ⟨#[c]⟩] w fun e w' => e = .returned (.int .i64 (Lib.indexByte s.data.toList c)) ∧ w' = w := Any.strings_Index_one Tryz.lays143 s c w
open Go.RowKit Go.Lib in
theorem Tryz.strings_Index (s sub : ByteArray) (m : Int) (w : World) (hs : s.size < 4294967281) (hm : w.cell? ⟨0, 0, none⟩ = some (.int .i64 m)) :
    Calls Tryz.prog 260 #[.string s, .string sub] w fun e w' => e = .returned (.int .i64 (Lib.index s.data.toList sub.data.toList)) ∧ w' = w := Any.strings_Index Tryz.lays143 s sub m w hs hm
def Tryz.lays220_ren : Go.Shelf.Ren := ⟨fun | 220 => 261 | 219 => 291 | 217 => 318 | 225 => 319 | 224 => 320 | 267 => 321 | 266 => 329 | 314 => 330 | n => n, fun | 9 => 9 | 4 => 4 | 3 => 3 | 5 => 5 | 46 => 339 | 146 => 421 | 51 => 363 | n => n, fun | 1 => 0 | n => n⟩
theorem Tryz.lays220 : Go.Proofs.Lays.n220 Tryz.prog Tryz.lays220_ren := {
  mixed := by kernel_rfl
  f217 := Tryz.func318.trans (congrArg some (by kernel_rfl))
  f219 := Tryz.func291.trans (congrArg some (by kernel_rfl))
  f220 := Tryz.func261.trans (congrArg some (by kernel_rfl))
  f224 := Tryz.func320.trans (congrArg some (by kernel_rfl))
  f225 := Tryz.func319.trans (congrArg some (by kernel_rfl))
  f266 := Tryz.func329.trans (congrArg some (by kernel_rfl))
  f267 := Tryz.func321.trans (congrArg some (by kernel_rfl))
  f314 := Tryz.func330.trans (congrArg some (by kernel_rfl))
  t3 := Tryz.underlying3
  a3 := Tryz.isAgg3
  z3 := Tryz.sizeOf3
  v3 := Tryz.zeroValue3
  t4 := Tryz.underlying4
  a4 := Tryz.isAgg4
  z4 := Tryz.sizeOf4
  v4 := Tryz.zeroValue4
  t5 := Tryz.underlying5
  a5 := Tryz.isAgg5
  z5 := Tryz.sizeOf5
  v5 := Tryz.zeroValue5
  t9 := Tryz.underlying9
  a9 := Tryz.isAgg9
  z9 := Tryz.sizeOf9
  v9 := Tryz.zeroValue9
  t46 := Tryz.underlying339
  a46 := Tryz.isAgg339
  z46 := Tryz.sizeOf339
  v46 := Tryz.zeroValue339
  t51 := Tryz.underlying363
  a51 := Tryz.isAgg363
  z51 := Tryz.sizeOf363
  v51 := Tryz.zeroValue363
  t146 := Tryz.underlying421
  a146 := Tryz.isAgg421
  z146 := Tryz.sizeOf421
  v146 := Tryz.zeroValue421
  g1 := by kernel_rfl }
open Go.RowKit Go.Lib in
theorem Tryz.stringslite_Cut (s sep : ByteArray) (m : Int) (w : World) (hs : s.size < 4294967281) (hm : w.cell? ⟨0, 0, none⟩ = some (.int .i64 m)) :
    Calls Tryz.prog 261 #[.string s, .string sep] w fun e w' => e = .returned (.tuple #[.string ⟨(Lib.cut s.data.toList sep.data.toList).1.toArray⟩, .string ⟨(Lib.cut s.data.toList sep.data.toList).2.1.toArray⟩, .bool (Lib.cut s.data.toList sep.data.toList).2.2]) ∧ ∃ n, w' = w.drewN n := Any.stringslite_Cut Tryz.lays220 s sep m w hs hm
def Tryz.lays145_ren : Go.Shelf.Ren := ⟨fun | 145 => 228 | 220 => 261 | 219 => 291 | 217 => 318 | 225 => 319 | 224 => 320 | 267 => 321 | 266 => 329 | 314 => 330 | n => n, fun | 9 => 9 | 4 => 4 | 59 => 347 | 3 => 3 | 5 => 5 | 46 => 339 | 146 => 421 | 51 => 363 | n => n, fun | 1 => 0 | n => n⟩
theorem Tryz.lays145 : Go.Proofs.Lays.n145 Tryz.prog Tryz.lays145_ren := {
  mixed := by kernel_rfl
  f145 := Tryz.func228.trans (congrArg some (by kernel_rfl))
  f217 := Tryz.func318.trans (congrArg some (by kernel_rfl))
  f219 := Tryz.func291.trans (congrArg some (by kernel_rfl))
  f220 := Tryz.func261.trans (congrArg some (by kernel_rfl))
  f224 := Tryz.func320.trans (congrArg some (by kernel_rfl))
  f225 := Tryz.func319.trans (congrArg some (by kernel_rfl))
  f266 := Tryz.func329.trans (congrArg some (by kernel_rfl))
  f267 := Tryz.func321.trans (congrArg some (by kernel_rfl))
  f314 := Tryz.func330.trans (congrArg some (by kernel_rfl))
  t3 := Tryz.underlying3
  a3 := Tryz.isAgg3
  z3 := Tryz.sizeOf3
  v3 := Tryz.zeroValue3
  t4 := Tryz.underlying4
  a4 := Tryz.isAgg4
  z4 := Tryz.sizeOf4
  v4 := Tryz.zeroValue4
  t5 := Tryz.underlying5
  a5 := Tryz.isAgg5
  z5 := Tryz.sizeOf5
  v5 := Tryz.zeroValue5
  t9 := Tryz.underlying9
  a9 := Tryz.isAgg9
  z9 := Tryz.sizeOf9
  v9 := Tryz.zeroValue9
  t46 := Tryz.underlying339
  a46 := Tryz.isAgg339
  z46 := Tryz.sizeOf339
  v46 := Tryz.zeroValue339
  t51 := Tryz.underlying363
  a51 := Tryz.isAgg363
  z51 := Tryz.sizeOf363
  v51 := Tryz.zeroValue363
  t59 := Tryz.underlying347
  a59 := Tryz.isAgg347
  z59 := Tryz.sizeOf347
  v59 := Tryz.zeroValue347
  t146 := Tryz.underlying421
  a146 := Tryz.isAgg421
  z146 := Tryz.sizeOf421
  v146 := Tryz.zeroValue421
  g1 := by kernel_rfl }
open Go.RowKit Go.Lib in
theorem Tryz.strings_Cut (s sep : ByteArray) (m : Int) (w : World) (hs : s.size < 4294967281) (hm : w.cell? ⟨0, 0, none⟩ = some (.int .i64 m)) :
    Calls Tryz.prog 228 #[.string s, .string sep] w fun e w' => e = .returned (.tuple #[.string ⟨(Lib.cut s.data.toList sep.data.toList).1.toArray⟩, .string ⟨(Lib.cut s.data.toList sep.data.toList).2.1.toArray⟩, .bool (Lib.cut s.data.toList sep.data.toList).2.2]) ∧ ∃ n, w' = w.drewN n := Any.strings_Cut Tryz.lays145 s sep m w hs hm
def Tryz.lays138_ren : Go.Shelf.Ren := ⟨fun | 138 => 259 | 195 => 288 | 218 => 290 | 143 => 260 | 219 => 291 | 217 => 318 | 225 => 319 | 224 => 320 | 267 => 321 | 266 => 329 | 314 => 330 | n => n, fun | 9 => 9 | 3 => 3 | 4 => 4 | 5 => 5 | 0 => 0 | 46 => 339 | 146 => 421 | 51 => 363 | n => n, fun | 1 => 0 | n => n⟩
theorem Tryz.lays138 : Go.Proofs.Lays.n138 Tryz.prog Tryz.lays138_ren := {
  mixed := by kernel_rfl
  f138 := Tryz.func259.trans (congrArg some (by kernel_rfl))
  f143 := Tryz.func260.trans (congrArg some (by kernel_rfl))
  f195 := Tryz.func288.trans (congrArg some (by kernel_rfl))
  f217 := Tryz.func318.trans (congrArg some (by kernel_rfl))
  f218 := Tryz.func290.trans (congrArg some (by kernel_rfl))
  f219 := Tryz.func291.trans (congrArg some (by kernel_rfl))
  f224 := Tryz.func320.trans (congrArg some (by kernel_rfl))
  f225 := Tryz.func319.trans (congrArg some (by kernel_rfl))
  f266 := Tryz.func329.trans (congrArg some (by kernel_rfl))
  f267 := Tryz.func321.trans (congrArg some (by kernel_rfl))
  f314 := Tryz.func330.trans (congrArg some (by kernel_rfl))
  t0 := Tryz.underlying0
  a0 := Tryz.isAgg0
  z0 := Tryz.sizeOf0
  v0 := Tryz.zeroValue0
  t3 := Tryz.underlying3
  a3 := Tryz.isAgg3
  z3 := Tryz.sizeOf3
  v3 := Tryz.zeroValue3
  t4 := Tryz.underlying4
  a4 := Tryz.isAgg4
  z4 := Tryz.sizeOf4
  v4 := Tryz.zeroValue4
  t5 := Tryz.underlying5
  a5 := Tryz.isAgg5
  z5 := Tryz.sizeOf5
  v5 := Tryz.zeroValue5
  t9 := Tryz.underlying9
  a9 := Tryz.isAgg9
  z9 := Tryz.sizeOf9
  v9 := Tryz.zeroValue9
  t46 := Tryz.underlying339
  a46 := Tryz.isAgg339
  z46 := Tryz.sizeOf339
  v46 := Tryz.zeroValue339
  t51 := Tryz.underlying363
  a51 := Tryz.isAgg363
  z51 := Tryz.sizeOf363
  v51 := Tryz.zeroValue363
  t146 := Tryz.underlying421
  a146 := Tryz.isAgg421
  z146 := Tryz.sizeOf421
  v146 := Tryz.zeroValue421
  g1 := by kernel_rfl }
open Go.RowKit Go.Lib in
theorem Tryz.strings_Count_one (s : ByteArray) (c : UInt8) (w : World) :
    Calls Tryz.prog 259 #[.string s, .string ⟨#[c]⟩] w fun e w' => e = .returned (.int .i64 (Lib.countByte s.data.toList c)) ∧ w' = w := Any.strings_Count_one Tryz.lays138 s c w
open Go.RowKit Go.Lib in
theorem Tryz.strings_Count (s sub : ByteArray) (m : Int) (w : World) (hs : s.size < 4294967281) (hm : w.cell? ⟨0, 0, none⟩ = some (.int .i64 m)) (h2 : 2 ≤ sub.size) :
    Calls Tryz.prog 259 #[.string s, .string sub] w fun e w' => e = .returned (.int .i64 (Lib.countB s sub)) ∧ w' = w := Any.strings_Count Tryz.lays138 s sub m w hs hm h2
def Tryz.laysM219_ren : Go.Shelf.Ren := ⟨fun | 219 => 291 | 217 => 318 | 225 => 319 | 224 => 320 | 267 => 321 | 266 => 329 | 314 => 330 | n => n, fun | 9 => 9 | 3 => 3 | 4 => 4 | 5 => 5 | 46 => 339 | 146 => 421 | 51 => 363 | n => n, fun | 1 => 0 | n => n⟩
theorem Tryz.laysM219 : Go.Proofs.LaysM.n219 Tryz.prog Tryz.laysM219_ren := {
  mixed := by kernel_rfl
  f217 := Tryz.func318.trans (congrArg some (by kernel_rfl))
  f219 := Tryz.func291.trans (congrArg some (by kernel_rfl))
  f224 := Tryz.func320.trans (congrArg some (by kernel_rfl))
  f225 := Tryz.func319.trans (congrArg some (by kernel_rfl))
  f266 := Tryz.func329.trans (congrArg some (by kernel_rfl))
  f267 := Tryz.func321.trans (congrArg some (by kernel_rfl))
  f314 := Tryz.func330.trans (congrArg some (by kernel_rfl))
  t3 := Tryz.underlying3
  a3 := Tryz.isAgg3
  z3 := Tryz.sizeOf3
  v3 := Tryz.zeroValue3
  t4 := Tryz.underlying4
  a4 := Tryz.isAgg4
  z4 := Tryz.sizeOf4
  v4 := Tryz.zeroValue4
  t5 := Tryz.underlying5
  a5 := Tryz.isAgg5
  z5 := Tryz.sizeOf5
  v5 := Tryz.zeroValue5
  t9 := Tryz.underlying9
  a9 := Tryz.isAgg9
  z9 := Tryz.sizeOf9
  v9 := Tryz.zeroValue9
  t46 := Tryz.underlying339
  a46 := Tryz.isAgg339
  z46 := Tryz.sizeOf339
  v46 := Tryz.zeroValue339
  t51 := Tryz.underlying363
  a51 := Tryz.isAgg363
  z51 := Tryz.sizeOf363
  v51 := Tryz.zeroValue363
  t146 := Tryz.underlying421
  a146 := Tryz.isAgg421
  z146 := Tryz.sizeOf421
  v146 := Tryz.zeroValue421
  g1 := by kernel_rfl
  i3 := by kernel_rfl
  i4 := by kernel_rfl
  i5 := by kernel_rfl
  i9 := by kernel_rfl
  i46 := by kernel_rfl
  i51 := by kernel_rfl
  i146 := by kernel_rfl
  m1 := by kernel_rfl
  s1_3 := fun w h => Go.Proofs.cell_of_shapedOpen_int (zero := #[.int .i64 0]) (t := 3) h (of_decide_eq_true (by kernel_rfl)) (by kernel_rfl) rfl (by kernel_rfl) (by kernel_rfl) Tryz.underlying3 }
open Go.RowKit Go.Lib in
theorem Tryz.stringslite_Index_shaped (s sub : ByteArray) (w : World) (h : w.ShapedOpen Tryz.prog) (hs : s.size < 4294967281) :
    Calls Tryz.prog 291 #[.string s, .string sub] w fun e w' => e = .returned (.int .i64 (Lib.index s.data.toList sub.data.toList)) ∧ w' = w := Any.stringslite_Index_shaped Tryz.laysM219 s sub w h hs
def Tryz.laysM143_ren : Go.Shelf.Ren := ⟨fun | 143 => 260 | 219 => 291 | 217 => 318 | 225 => 319 | 224 => 320 | 267 => 321 | 266 => 329 | 314 => 330 | n => n, fun | 9 => 9 | 3 => 3 | 4 => 4 | 5 => 5 | 46 => 339 | 146 => 421 | 51 => 363 | n => n, fun | 1 => 0 | n => n⟩
theorem Tryz.laysM143 : Go.Proofs.LaysM.n143 Tryz.prog Tryz.laysM143_ren := {
  mixed := by kernel_rfl
  f143 := Tryz.func260.trans (congrArg some (by kernel_rfl))
  f217 := Tryz.func318.trans (congrArg some (by kernel_rfl))
  f219 := Tryz.func291.trans (congrArg some (by kernel_rfl))
  f224 := Tryz.func320.trans (congrArg some (by kernel_rfl))
  f225 := Tryz.func319.trans (congrArg some (by kernel_rfl))
  f266 := Tryz.func329.trans (congrArg some (by kernel_rfl))
  f267 := Tryz.func321.trans (congrArg some (by kernel_rfl))
  f314 := Tryz.func330.trans (congrArg some (by kernel_rfl))
  t3 := Tryz.underlying3
  a3 := Tryz.isAgg3
  z3 := Tryz.sizeOf3
  v3 := Tryz.zeroValue3
  t4 := Tryz.underlying4
  a4 := Tryz.isAgg4
  z4 := Tryz.sizeOf4
  v4 := Tryz.zeroValue4
  t5 := Tryz.underlying5
  a5 := Tryz.isAgg5
  z5 := Tryz.sizeOf5
  v5 := Tryz.zeroValue5
  t9 := Tryz.underlying9
  a9 := Tryz.isAgg9
  z9 := Tryz.sizeOf9
  v9 := Tryz.zeroValue9
  t46 := Tryz.underlying339
  a46 := Tryz.isAgg339
  z46 := Tryz.sizeOf339
  v46 := Tryz.zeroValue339
  t51 := Tryz.underlying363
  a51 := Tryz.isAgg363
  z51 := Tryz.sizeOf363
  v51 := Tryz.zeroValue363
  t146 := Tryz.underlying421
  a146 := Tryz.isAgg421
  z146 := Tryz.sizeOf421
  v146 := Tryz.zeroValue421
  g1 := by kernel_rfl
  i3 := by kernel_rfl
  i4 := by kernel_rfl
  i5 := by kernel_rfl
  i9 := by kernel_rfl
  i46 := by kernel_rfl
  i51 := by kernel_rfl
  i146 := by kernel_rfl
  m1 := by kernel_rfl
  s1_3 := fun w h => Go.Proofs.cell_of_shapedOpen_int (zero := #[.int .i64 0]) (t := 3) h (of_decide_eq_true (by kernel_rfl)) (by kernel_rfl) rfl (by kernel_rfl) (by kernel_rfl) Tryz.underlying3 }
open Go.RowKit Go.Lib in
theorem Tryz.strings_Index_shaped (s sub : ByteArray) (w : World) (h : w.ShapedOpen Tryz.prog) (hs : s.size < 4294967281) :
    Calls Tryz.prog 260 #[.string s, .string sub] w fun e w' => e = .returned (.int .i64 (Lib.index s.data.toList sub.data.toList)) ∧ w' = w := Any.strings_Index_shaped Tryz.laysM143 s sub w h hs
def Tryz.laysM220_ren : Go.Shelf.Ren := ⟨fun | 220 => 261 | 219 => 291 | 217 => 318 | 225 => 319 | 224 => 320 | 267 => 321 | 266 => 329 | 314 => 330 | n => n, fun | 9 => 9 | 4 => 4 | 3 => 3 | 5 => 5 | 46 => 339 | 146 => 421 | 51 => 363 | n => n, fun | 1 => 0 | n => n⟩
theorem Tryz.laysM220 : Go.Proofs.LaysM.n220 Tryz.prog Tryz.laysM220_ren := {
  mixed := by kernel_rfl
  f217 := Tryz.func318.trans (congrArg some (by kernel_rfl))
  f219 := Tryz.func291.trans (congrArg some (by kernel_rfl))
  f220 := Tryz.func261.trans (congrArg some (by kernel_rfl))
  f224 := Tryz.func320.trans (congrArg some (by kernel_rfl))
  f225 := Tryz.func319.trans (congrArg some (by kernel_rfl))
  f266 := Tryz.func329.trans (congrArg some (by kernel_rfl))
  f267 := Tryz.func321.trans (congrArg some (by kernel_rfl))
  f314 := Tryz.func330.trans (congrArg some (by kernel_rfl))
  t3 := Tryz.underlying3
  a3 := Tryz.isAgg3
  z3 := Tryz.sizeOf3
  v3 := Tryz.zeroValue3
  t4 := Tryz.underlying4
  a4 := Tryz.isAgg4
  z4 := Tryz.sizeOf4
  v4 := Tryz.zeroValue4
  t5 := Tryz.underlying5
  a5 := Tryz.isAgg5
  z5 := Tryz.sizeOf5
  v5 := Tryz.zeroValue5
  t9 := Tryz.underlying9
  a9 := Tryz.isAgg9
  z9 := Tryz.sizeOf9
  v9 := Tryz.zeroValue9
  t46 := Tryz.underlying339
  a46 := Tryz.isAgg339
  z46 := Tryz.sizeOf339
  v46 := Tryz.zeroValue339
  t51 := Tryz.underlying363
  a51 := Tryz.isAgg363
  z51 := Tryz.sizeOf363
  v51 := Tryz.zeroValue363
  t146 := Tryz.underlying421
  a146 := Tryz.isAgg421
  z146 := Tryz.sizeOf421
  v146 := Tryz.zeroValue421
  g1 := by kernel_rfl
  i3 := by kernel_rfl
  i4 := by kernel_rfl
  i5 := by kernel_rfl
  i9 := by kernel_rfl
  i46 := by kernel_rfl
  i51 := by kernel_rfl
  i146 := by kernel_rfl
  m1 := by kernel_rfl
  s1_3 := fun w h => Go.Proofs.cell_of_shapedOpen_int (zero := #[.int .i64 0]) (t := 3) h (of_decide_eq_true (by kernel_rfl)) (by kernel_rfl) rfl (by kernel_rfl) (by kernel_rfl) Tryz.underlying3 }
open Go.RowKit Go.Lib in
theorem Tryz.stringslite_Cut_shaped (s sep : ByteArray) (w : World) (h : w.ShapedOpen Tryz.prog) (hs : s.size < 4294967281) :
    Calls Tryz.prog 261 #[.string s, .string sep] w fun e w' => e = .returned (.tuple #[.string ⟨(Lib.cut s.data.toList sep.data.toList).1.toArray⟩, .string ⟨(Lib.cut s.data.toList sep.data.toList).2.1.toArray⟩, .bool (Lib.cut s.data.toList sep.data.toList).2.2]) ∧ ∃ n, w' = w.drewN n := Any.stringslite_Cut_shaped Tryz.laysM220 s sep w h hs
def Tryz.laysM145_ren : Go.Shelf.Ren := ⟨fun | 145 => 228 | 220 => 261 | 219 => 291 | 217 => 318 | 225 => 319 | 224 => 320 | 267 => 321 | 266 => 329 | 314 => 330 | n => n, fun | 9 => 9 | 4 => 4 | 59 => 347 | 3 => 3 | 5 => 5 | 46 => 339 | 146 => 421 | 51 => 363 | n => n, fun | 1 => 0 | n => n⟩
theorem Tryz.laysM145 : Go.Proofs.LaysM.n145 Tryz.prog Tryz.laysM145_ren := {
  mixed := by kernel_rfl
  f145 := Tryz.func228.trans (congrArg some (by kernel_rfl))
  f217 := Tryz.func318.trans (congrArg some (by kernel_rfl))
  f219 := Tryz.func291.trans (congrArg some (by kernel_rfl))
  f220 := Tryz.func261.trans (congrArg some (by kernel_rfl))
  f224 := Tryz.func320.trans (congrArg some (by kernel_rfl))
  f225 := Tryz.func319.trans (congrArg some (by kernel_rfl))
  f266 := Tryz.func329.trans (congrArg some (by kernel_rfl))
  f267 := Tryz.func321.trans (congrArg some (by kernel_rfl))
  f314 := Tryz.func330.trans (congrArg some (by kernel_rfl))
  t3 := Tryz.underlying3
  a3 := Tryz.isAgg3
  z3 := Tryz.sizeOf3
  v3 := Tryz.zeroValue3
  t4 := Tryz.underlying4
  a4 := Tryz.isAgg4
  z4 := Tryz.sizeOf4
  v4 := Tryz.zeroValue4
  t5 := Tryz.underlying5
  a5 := Tryz.isAgg5
  z5 := Tryz.sizeOf5
  v5 := Tryz.zeroValue5
  t9 := Tryz.underlying9
  a9 := Tryz.isAgg9
  z9 := Tryz.sizeOf9
  v9 := Tryz.zeroValue9
  t46 := Tryz.underlying339
  a46 := Tryz.isAgg339
  z46 := Tryz.sizeOf339
  v46 := Tryz.zeroValue339
  t51 := Tryz.underlying363
  a51 := Tryz.isAgg363
  z51 := Tryz.sizeOf363
  v51 := Tryz.zeroValue363
  t59 := Tryz.underlying347
  a59 := Tryz.isAgg347
  z59 := Tryz.sizeOf347
  v59 := Tryz.zeroValue347
  t146 := Tryz.underlying421
  a146 := Tryz.isAgg421
  z146 := Tryz.sizeOf421
  v146 := Tryz.zeroValue421
  g1 := by kernel_rfl
  i3 := by kernel_rfl
  i4 := by kernel_rfl
  i5 := by kernel_rfl
  i9 := by kernel_rfl
  i46 := by kernel_rfl
  i51 := by kernel_rfl
  i59 := by kernel_rfl
  i146 := by kernel_rfl
  m1 := by kernel_rfl
  s1_3 := fun w h => Go.Proofs.cell_of_shapedOpen_int (zero := #[.int .i64 0]) (t := 3) h (of_decide_eq_true (by kernel_rfl)) (by kernel_rfl) rfl (by kernel_rfl) (by kernel_rfl) Tryz.underlying3 }
open Go.RowKit Go.Lib in
theorem Tryz.strings_Cut_shaped (s sep : ByteArray) (w : World) (h : w.ShapedOpen Tryz.prog) (hs : s.size < 4294967281) :
    Calls Tryz.prog 228 #[.string s, .string sep] w fun e w' => e = .returned (.tuple #[.string ⟨(Lib.cut s.data.toList sep.data.toList).1.toArray⟩, .string ⟨(Lib.cut s.data.toList sep.data.toList).2.1.toArray⟩, .bool (Lib.cut s.data.toList sep.data.toList).2.2]) ∧ ∃ n, w' = w.drewN n := Any.strings_Cut_shaped Tryz.laysM145 s sep w h hs
def Tryz.laysM138_ren : Go.Shelf.Ren := ⟨fun | 138 => 259 | 195 => 288 | 218 => 290 | 143 => 260 | 219 => 291 | 217 => 318 | 225 => 319 | 224 => 320 | 267 => 321 | 266 => 329 | 314 => 330 | n => n, fun | 9 => 9 | 3 => 3 | 4 => 4 | 5 => 5 | 0 => 0 | 46 => 339 | 146 => 421 | 51 => 363 | n => n, fun | 1 => 0 | n => n⟩
theorem Tryz.laysM138 : Go.Proofs.LaysM.n138 Tryz.prog Tryz.laysM138_ren := {
  mixed := by kernel_rfl
  f138 := Tryz.func259.trans (congrArg some (by kernel_rfl))
  f143 := Tryz.func260.trans (congrArg some (by kernel_rfl))
  f195 := Tryz.func288.trans (congrArg some (by kernel_rfl))
  f217 := Tryz.func318.trans (congrArg some (by kernel_rfl))
  f218 := Tryz.func290.trans (congrArg some (by kernel_rfl))
  f219 := Tryz.func291.trans (congrArg some (by kernel_rfl))
  f224 := Tryz.func320.trans (congrArg some (by kernel_rfl))
  f225 := Tryz.func319.trans (congrArg some (by kernel_rfl))
  f266 := Tryz.func329.trans (congrArg some (by kernel_rfl))
  f267 := Tryz.func321.trans (congrArg some (by kernel_rfl))
  f314 := Tryz.func330.trans (congrArg some (by kernel_rfl))
  t0 := Tryz.underlying0
  a0 := Tryz.isAgg0
  z0 := Tryz.sizeOf0
  v0 := Tryz.zeroValue0
  t3 := Tryz.underlying3
  a3 := Tryz.isAgg3
  z3 := Tryz.sizeOf3
  v3 := Tryz.zeroValue3
  t4 := Tryz.underlying4
  a4 := Tryz.isAgg4
  z4 := Tryz.sizeOf4
  v4 := Tryz.zeroValue4
  t5 := Tryz.underlying5
  a5 := Tryz.isAgg5
  z5 := Tryz.sizeOf5
  v5 := Tryz.zeroValue5
  t9 := Tryz.underlying9
  a9 := Tryz.isAgg9
  z9 := Tryz.sizeOf9
  v9 := Tryz.zeroValue9
  t46 := Tryz.underlying339
  a46 := Tryz.isAgg339
  z46 := Tryz.sizeOf339
  v46 := Tryz.zeroValue339
  t51 := Tryz.underlying363
  a51 := Tryz.isAgg363
  z51 := Tryz.sizeOf363
  v51 := Tryz.zeroValue363
  t146 := Tryz.underlying421
  a146 := Tryz.isAgg421
  z146 := Tryz.sizeOf421
  v146 := Tryz.zeroValue421
  g1 := by kernel_rfl
  i0 := by kernel_rfl
  i3 := by kernel_rfl
  i4 := by kernel_rfl
  i5 := by kernel_rfl
  i9 := by kernel_rfl
  i46 := by kernel_rfl
  i51 := by kernel_rfl
  i146 := by kernel_rfl
  m1 := by kernel_rfl
  s1_3 := fun w h => Go.Proofs.cell_of_shapedOpen_int (zero := #[.int .i64 0]) (t := 3) h (of_decide_eq_true (by kernel_rfl)) (by kernel_rfl) rfl (by kernel_rfl) (by kernel_rfl) Tryz.underlying3 }
open Go.RowKit Go.Lib in
theorem Tryz.strings_Count_shaped (s sub : ByteArray) (w : World) (h : w.ShapedOpen Tryz.prog) (hs : s.size < 4294967281) (h2 : 2 ≤ sub.size) :
    Calls Tryz.prog 259 #[.string s, .string sub] w fun e w' => e = .returned (.int .i64 (Lib.countB s sub)) ∧ w' = w := Any.strings_Count_shaped Tryz.laysM138 s sub w h hs h2
open Go.RowKit Go.Lib in
theorem Tryz.strings_Count_any (s sep : ByteArray) (m : Int) (w : World) (hs : s.size < 4294967281) (hm : w.cell? ⟨0, 0, none⟩ = some (.int .i64 m)) (h1 : 1 ≤ sep.size) :
    Calls Tryz.prog 259 #[.string s, .string sep] w fun e w' => e = .returned (.int .i64 (Lib.countB s sep)) ∧ w' = w := Any.strings_Count_any Tryz.lays138 s sep m w hs hm h1
def Tryz.lays221_ren : Go.Shelf.Ren := ⟨fun | 221 => 227 | 268 => 258 | 138 => 259 | 143 => 260 | 195 => 288 | 197 => 289 | 218 => 290 | 219 => 291 | 260 => 317 | 217 => 318 | 225 => 319 | 224 => 320 | 267 => 321 | 266 => 329 | 314 => 330 | n => n, fun | 9 => 9 | 3 => 3 | 31 => 61 | 4 => 4 | 0 => 0 | 105 => 393 | 21 => 21 | 5 => 5 | 46 => 339 | 119 => 417 | 139 => 420 | 138 => 419 | 146 => 421 | 51 => 363 | n => n, fun | 1 => 0 | 3 => 1 | 4 => 2 | n => n⟩
theorem Tryz.lays221 : Go.Proofs.Lays.n221 Tryz.prog Tryz.lays221_ren := {
  mixed := by kernel_rfl
  f138 := Tryz.func259.trans (congrArg some (by kernel_rfl))
  f143 := Tryz.func260.trans (congrArg some (by kernel_rfl))
  f195 := Tryz.func288.trans (congrArg some (by kernel_rfl))
  f197 := Tryz.func289.trans (congrArg some (by kernel_rfl))
  f217 := Tryz.func318.trans (congrArg some (by kernel_rfl))
  f218 := Tryz.func290.trans (congrArg some (by kernel_rfl))
  f219 := Tryz.func291.trans (congrArg some (by kernel_rfl))
  f221 := Tryz.func227.trans (congrArg some (by kernel_rfl))
  f224 := Tryz.func320.trans (congrArg some (by kernel_rfl))
  f225 := Tryz.func319.trans (congrArg some (by kernel_rfl))
  f260 := Tryz.func317.trans (congrArg some (by kernel_rfl))
  f266 := Tryz.func329.trans (congrArg some (by kernel_rfl))
  f267 := Tryz.func321.trans (congrArg some (by kernel_rfl))
  f268 := Tryz.func258.trans (congrArg some (by kernel_rfl))
  f314 := Tryz.func330.trans (congrArg some (by kernel_rfl))
  t0 := Tryz.underlying0
  a0 := Tryz.isAgg0
  z0 := Tryz.sizeOf0
  v0 := Tryz.zeroValue0
  t3 := Tryz.underlying3
  a3 := Tryz.isAgg3
  z3 := Tryz.sizeOf3
  v3 := Tryz.zeroValue3
  t4 := Tryz.underlying4
  a4 := Tryz.isAgg4
  z4 := Tryz.sizeOf4
  v4 := Tryz.zeroValue4
  t5 := Tryz.underlying5
  a5 := Tryz.isAgg5
  z5 := Tryz.sizeOf5
  v5 := Tryz.zeroValue5
  t9 := Tryz.underlying9
  a9 := Tryz.isAgg9
  z9 := Tryz.sizeOf9
  v9 := Tryz.zeroValue9
  t21 := Tryz.underlying21
  a21 := Tryz.isAgg21
  z21 := Tryz.sizeOf21
  v21 := Tryz.zeroValue21
  t31 := Tryz.underlying61
  a31 := Tryz.isAgg61
  z31 := Tryz.sizeOf61
  v31 := Tryz.zeroValue61
  t46 := Tryz.underlying339
  a46 := Tryz.isAgg339
  z46 := Tryz.sizeOf339
  v46 := Tryz.zeroValue339
  t51 := Tryz.underlying363
  a51 := Tryz.isAgg363
  z51 := Tryz.sizeOf363
  v51 := Tryz.zeroValue363
  t105 := Tryz.underlying393
  a105 := Tryz.isAgg393
  z105 := Tryz.sizeOf393
  v105 := Tryz.zeroValue393
  t119 := Tryz.underlying417
  a119 := Tryz.isAgg417
  z119 := Tryz.sizeOf417
  t138 := Tryz.underlying419
  a138 := Tryz.isAgg419
  z138 := Tryz.sizeOf419
  v138 := Tryz.zeroValue419
  t139 := Tryz.underlying420
  a139 := Tryz.isAgg420
  z139 := Tryz.sizeOf420
  v139 := Tryz.zeroValue420
  t146 := Tryz.underlying421
  a146 := Tryz.isAgg421
  z146 := Tryz.sizeOf421
  v146 := Tryz.zeroValue421
  g1 := by kernel_rfl
  g3 := by kernel_rfl
  g4 := by kernel_rfl }
open Go.RowKit Go.Lib in
theorem Tryz.strings_genSplit (s sep : ByteArray) (sv : Nat) (n : Int) (N : Nat) (m : Int) (w : World) (hs : s.size < 4294967281) (hm : w.cell? ⟨0, 0, none⟩ = some (.int .i64 m)) (h1 : 1 ≤ sep.size) (hsv : sv ≤ sep.size) (hn0 : n ≠ 0) (hn63 : n ≤ 9223372036854775807) (hN : (N : Int) = min (if n < 0 then (Lib.countB s sep : Int) + 1 else n) ((s.size : Int) + 1)) :
    Calls Tryz.prog 227 #[.string s, .string sep, .int .i64 sv, .int .i64 n] w fun e w' =>
      e = .returned (.slice (some ⟨w.heap.size, 0, none⟩) (Lib.splitB sep sv (N - 1) s).length N) ∧ w' = w.alloc (.cells (Lib.cellsOf (Lib.splitB sep sv (N - 1) s) N) 9) := Any.strings_genSplit Tryz.lays221 (by kernel_rfl) s sep sv n N m w hs hm h1 hsv hn0 hn63 hN
def Tryz.lays146_ren : Go.Shelf.Ren := ⟨fun | 146 => 174 | 221 => 227 | 268 => 258 | 138 => 259 | 143 => 260 | 195 => 288 | 197 => 289 | 218 => 290 | 219 => 291 | 260 => 317 | 217 => 318 | 225 => 319 | 224 => 320 | 267 => 321 | 266 => 329 | 314 => 330 | n => n, fun | 9 => 9 | 31 => 61 | 3 => 3 | 4 => 4 | 0 => 0 | 105 => 393 | 21 => 21 | 5 => 5 | 46 => 339 | 119 => 417 | 139 => 420 | 138 => 419 | 146 => 421 | 51 => 363 | n => n, fun | 1 => 0 | 3 => 1 | 4 => 2 | n => n⟩
theorem Tryz.lays146 : Go.Proofs.Lays.n146 Tryz.prog Tryz.lays146_ren := {
  mixed := by kernel_rfl
  f138 := Tryz.func259.trans (congrArg some (by kernel_rfl))
  f143 := Tryz.func260.trans (congrArg some (by kernel_rfl))
  f146 := Tryz.func174.trans (congrArg some (by kernel_rfl))
  f195 := Tryz.func288.trans (congrArg some (by kernel_rfl))
  f197 := Tryz.func289.trans (congrArg some (by kernel_rfl))
  f217 := Tryz.func318.trans (congrArg some (by kernel_rfl))
  f218 := Tryz.func290.trans (congrArg some (by kernel_rfl))
  f219 := Tryz.func291.trans (congrArg some (by kernel_rfl))
  f221 := Tryz.func227.trans (congrArg some (by kernel_rfl))
  f224 := Tryz.func320.trans (congrArg some (by kernel_rfl))
  f225 := Tryz.func319.trans (congrArg some (by kernel_rfl))
  f260 := Tryz.func317.trans (congrArg some (by kernel_rfl))
  f266 := Tryz.func329.trans (congrArg some (by kernel_rfl))
  f267 := Tryz.func321.trans (congrArg some (by kernel_rfl))
  f268 := Tryz.func258.trans (congrArg some (by kernel_rfl))
  f314 := Tryz.func330.trans (congrArg some (by kernel_rfl))
  t0 := Tryz.underlying0
  a0 := Tryz.isAgg0
  z0 := Tryz.sizeOf0
  v0 := Tryz.zeroValue0
  t3 := Tryz.underlying3
  a3 := Tryz.isAgg3
  z3 := Tryz.sizeOf3
  v3 := Tryz.zeroValue3
  t4 := Tryz.underlying4
  a4 := Tryz.isAgg4
  z4 := Tryz.sizeOf4
  v4 := Tryz.zeroValue4
  t5 := Tryz.underlying5
  a5 := Tryz.isAgg5
  z5 := Tryz.sizeOf5
  v5 := Tryz.zeroValue5
  t9 := Tryz.underlying9
  a9 := Tryz.isAgg9
  z9 := Tryz.sizeOf9
  v9 := Tryz.zeroValue9
  t21 := Tryz.underlying21
  a21 := Tryz.isAgg21
  z21 := Tryz.sizeOf21
  v21 := Tryz.zeroValue21
  t31 := Tryz.underlying61
  a31 := Tryz.isAgg61
  z31 := Tryz.sizeOf61
  v31 := Tryz.zeroValue61
  t46 := Tryz.underlying339
  a46 := Tryz.isAgg339
  z46 := Tryz.sizeOf339
  v46 := Tryz.zeroValue339
  t51 := Tryz.underlying363
  a51 := Tryz.isAgg363
  z51 := Tryz.sizeOf363
  v51 := Tryz.zeroValue363
  t105 := Tryz.underlying393
  a105 := Tryz.isAgg393
  z105 := Tryz.sizeOf393
  v105 := Tryz.zeroValue393
  t119 := Tryz.underlying417
  a119 := Tryz.isAgg417
  z119 := Tryz.sizeOf417
  t138 := Tryz.underlying419
  a138 := Tryz.isAgg419
  z138 := Tryz.sizeOf419
  v138 := Tryz.zeroValue419
  t139 := Tryz.underlying420
  a139 := Tryz.isAgg420
  z139 := Tryz.sizeOf420
  v139 := Tryz.zeroValue420
  t146 := Tryz.underlying421
  a146 := Tryz.isAgg421
  z146 := Tryz.sizeOf421
  v146 := Tryz.zeroValue421
  g1 := by kernel_rfl
  g3 := by kernel_rfl
  g4 := by kernel_rfl }
open Go.RowKit Go.Lib in
theorem Tryz.strings_Split (s sep : ByteArray) (m : Int) (w : World) (hs : s.size < 4294967281) (hm : w.cell? ⟨0, 0, none⟩ = some (.int .i64 m)) (h1 : 1 ≤ sep.size) :
    Calls Tryz.prog 174 #[.string s, .string sep] w fun e w' =>
      e = .returned (.slice (some ⟨w.heap.size, 0, none⟩) (Lib.countB s sep + 1) (Lib.countB s sep + 1)) ∧ w' = w.alloc (.cells ((Lib.splitB sep 0 (Lib.countB s sep) s).map Value.string).toArray 9) := Any.strings_Split Tryz.lays146 (by kernel_rfl) s sep m w hs hm h1
def Tryz.laysM146_ren : Go.Shelf.Ren := ⟨fun | 146 => 174 | 221 => 227 | 268 => 258 | 138 => 259 | 143 => 260 | 195 => 288 | 197 => 289 | 218 => 290 | 219 => 291 | 260 => 317 | 217 => 318 | 225 => 319 | 224 => 320 | 267 => 321 | 266 => 329 | 314 => 330 | n => n, fun | 9 => 9 | 31 => 61 | 3 => 3 | 4 => 4 | 0 => 0 | 105 => 393 | 21 => 21 | 5 => 5 | 46 => 339 | 119 => 417 | 139 => 420 | 138 => 419 | 146 => 421 | 51 => 363 | n => n, fun | 1 => 0 | 3 => 1 | 4 => 2 | n => n⟩
theorem Tryz.laysM146 : Go.Proofs.LaysM.n146 Tryz.prog Tryz.laysM146_ren := {
  mixed := by kernel_rfl
  f138 := Tryz.func259.trans (congrArg some (by kernel_rfl))
  f143 := Tryz.func260.trans (congrArg some (by kernel_rfl))
  f146 := Tryz.func174.trans (congrArg some (by kernel_rfl))
  f195 := Tryz.func288.trans (congrArg some (by kernel_rfl))
  f197 := Tryz.func289.trans (congrArg some (by kernel_rfl))
  f217 := Tryz.func318.trans (congrArg some (by kernel_rfl))
  f218 := Tryz.func290.trans (congrArg some (by kernel_rfl))
  f219 := Tryz.func291.trans (congrArg some (by kernel_rfl))
  f221 := Tryz.func227.trans (congrArg some (by kernel_rfl))
  f224 := Tryz.func320.trans (congrArg some (by kernel_rfl))
  f225 := Tryz.func319.trans (congrArg some (by kernel_rfl))
  f260 := Tryz.func317.trans (congrArg some (by kernel_rfl))
  f266 := Tryz.func329.trans (congrArg some (by kernel_rfl))
  f267 := Tryz.func321.trans (congrArg some (by kernel_rfl))
  f268 := Tryz.func258.trans (congrArg some (by kernel_rfl))
  f314 := Tryz.func330.trans (congrArg some (by kernel_rfl))
  t0 := Tryz.underlying0
  a0 := Tryz.isAgg0
  z0 := Tryz.sizeOf0
  v0 := Tryz.zeroValue0
  t3 := Tryz.underlying3
  a3 := Tryz.isAgg3
  z3 := Tryz.sizeOf3
  v3 := Tryz.zeroValue3
  t4 := Tryz.underlying4
  a4 := Tryz.isAgg4
  z4 := Tryz.sizeOf4
  v4 := Tryz.zeroValue4
  t5 := Tryz.underlying5
  a5 := Tryz.isAgg5
  z5 := Tryz.sizeOf5
  v5 := Tryz.zeroValue5
  t9 := Tryz.underlying9
  a9 := Tryz.isAgg9
  z9 := Tryz.sizeOf9
  v9 := Tryz.zeroValue9
  t21 := Tryz.underlying21
  a21 := Tryz.isAgg21
  z21 := Tryz.sizeOf21
  v21 := Tryz.zeroValue21
  t31 := Tryz.underlying61
  a31 := Tryz.isAgg61
  z31 := Tryz.sizeOf61
  v31 := Tryz.zeroValue61
  t46 := Tryz.underlying339
  a46 := Tryz.isAgg339
  z46 := Tryz.sizeOf339
  v46 := Tryz.zeroValue339
  t51 := Tryz.underlying363
  a51 := Tryz.isAgg363
  z51 := Tryz.sizeOf363
  v51 := Tryz.zeroValue363
  t105 := Tryz.underlying393
  a105 := Tryz.isAgg393
  z105 := Tryz.sizeOf393
  v105 := Tryz.zeroValue393
  t119 := Tryz.underlying417
  a119 := Tryz.isAgg417
  z119 := Tryz.sizeOf417
  t138 := Tryz.underlying419
  a138 := Tryz.isAgg419
  z138 := Tryz.sizeOf419
  v138 := Tryz.zeroValue419
  t139 := Tryz.underlying420
  a139 := Tryz.isAgg420
  z139 := Tryz.sizeOf420
  v139 := Tryz.zeroValue420
  t146 := Tryz.underlying421
  a146 := Tryz.isAgg421
  z146 := Tryz.sizeOf421
  v146 := Tryz.zeroValue421
  g1 := by kernel_rfl
  g3 := by kernel_rfl
  g4 := by kernel_rfl
  i0 := by kernel_rfl
  i3 := by kernel_rfl
  i4 := by kernel_rfl
  i5 := by kernel_rfl
  i9 := by kernel_rfl
  i21 := by kernel_rfl
  i31 := by kernel_rfl
  i46 := by kernel_rfl
  i51 := by kernel_rfl
  i105 := by kernel_rfl
  i138 := by kernel_rfl
  i139 := by kernel_rfl
  i146 := by kernel_rfl
  m1 := by kernel_rfl
  s1_3 := fun w h => Go.Proofs.cell_of_shapedOpen_int (zero := #[.int .i64 0]) (t := 3) h (of_decide_eq_true (by kernel_rfl)) (by kernel_rfl) rfl (by kernel_rfl) (by kernel_rfl) Tryz.underlying3
  m3 := by kernel_rfl
  m4 := by kernel_rfl }
open Go.RowKit Go.Lib in
theorem Tryz.strings_Split_shaped (s sep : ByteArray) (w : World) (h : w.ShapedOpen Tryz.prog) (hs : s.size < 4294967281) (h1 : 1 ≤ sep.size) :
    Calls Tryz.prog 174 #[.string s, .string sep] w fun e w' =>
      e = .returned (.slice (some ⟨w.heap.size, 0, none⟩) (Lib.countB s sep + 1) (Lib.countB s sep + 1)) ∧ w' = w.alloc (.cells ((Lib.splitB sep 0 (Lib.countB s sep) s).map Value.string).toArray 9) := Any.strings_Split_shaped Tryz.laysM146 s sep w h hs h1
def Tryz.lays260_ren : Go.Shelf.Ren := ⟨fun | 260 => 317 | n => n, fun | 9 => 9 | 21 => 21 | 3 => 3 | 4 => 4 | 5 => 5 | 119 => 417 | 0 => 0 | 46 => 339 | 139 => 420 | 138 => 419 | n => n, fun | 3 => 1 | 4 => 2 | n => n⟩
theorem Tryz.lays260 : Go.Proofs.Lays.n260 Tryz.prog Tryz.lays260_ren := {
  mixed := by kernel_rfl
  f260 := Tryz.func317.trans (congrArg some (by kernel_rfl))
  t0 := Tryz.underlying0
  a0 := Tryz.isAgg0
  z0 := Tryz.sizeOf0
  v0 := Tryz.zeroValue0
  t3 := Tryz.underlying3
  a3 := Tryz.isAgg3
  z3 := Tryz.sizeOf3
  v3 := Tryz.zeroValue3
  t4 := Tryz.underlying4
  a4 := Tryz.isAgg4
  z4 := Tryz.sizeOf4
  v4 := Tryz.zeroValue4
  t5 := Tryz.underlying5
  a5 := Tryz.isAgg5
  z5 := Tryz.sizeOf5
  v5 := Tryz.zeroValue5
  t9 := Tryz.underlying9
  a9 := Tryz.isAgg9
  z9 := Tryz.sizeOf9
  v9 := Tryz.zeroValue9
  t21 := Tryz.underlying21
  a21 := Tryz.isAgg21
  z21 := Tryz.sizeOf21
  v21 := Tryz.zeroValue21
  t46 := Tryz.underlying339
  a46 := Tryz.isAgg339
  z46 := Tryz.sizeOf339
  v46 := Tryz.zeroValue339
  t119 := Tryz.underlying417
  a119 := Tryz.isAgg417
  z119 := Tryz.sizeOf417
  t138 := Tryz.underlying419
  a138 := Tryz.isAgg419
  z138 := Tryz.sizeOf419
  v138 := Tryz.zeroValue419
  t139 := Tryz.underlying420
  a139 := Tryz.isAgg420
  z139 := Tryz.sizeOf420
  v139 := Tryz.zeroValue420
  g3 := by kernel_rfl
  g4 := by kernel_rfl }
open Go.RowKit Go.Lib in
theorem Tryz.utf8_decodeRuneInStringSlow (s : ByteArray) (w : World) (hT : Lib.Utf8Tabs 1 2 w) :
    Calls Tryz.prog 317 #[.string s] w fun e w' => e = .returned (.tuple #[.int .i32 (Lib.decodeGo s).1, .int .i64 (Lib.decodeGo s).2]) ∧ Below w.heap.size w w' := Any.utf8_decodeRuneInStringSlow Tryz.lays260 s w hT
end Go.Proofs
