/- The library's contracts on sorted map keys at this program's numbers, in plain words. -/
import Derived.Shelf.SlIter.Nil
import Derived.Shelf.SortM.Plain
import Derived.Shelf.SortM.SortNone
import Derived.Ground.GgzProg
import Derived.Ground.SlgmProg
import Derived.Test.YtmenipaibjifiaaGreatDoorProg
set_option linter.unusedVariables false
set_option linter.unusedSimpArgs false
namespace Go.Proofs
open Go.RowKit Go.Maps Go.Sort Go.Shelf

def Tryz.keys75_ren : Go.Shelf.Ren := ⟨fun | 7 => 75 | 10 => 154 | n => n, fun | 23 => 122 | 26 => 9 | 3 => 159 | 28 => 157 | 0 => 0 | 27 => 156 | 33 => 190 | 4 => 4 | n => n, fun | n => n⟩
theorem Tryz.keys75 : Go.Proofs.SlLaysZ.n7 Tryz.prog Tryz.keys75_ren := {
  mixed := by kernel_rfl
  f7 := ⟨Tryz.f75.name, by decide, Tryz.func75.trans (congrArg some (by kernel_rfl))⟩
  f10 := ⟨Tryz.f154.name, by decide, Tryz.func154.trans (congrArg some (by kernel_rfl))⟩
  t0 := Tryz.underlying0
  a0 := Tryz.isAgg0
  z0 := Tryz.sizeOf0
  v0 := Tryz.zeroValue0
  t4 := Tryz.underlying4
  a4 := Tryz.isAgg4
  z4 := Tryz.sizeOf4
  v4 := Tryz.zeroValue4
  t23 := Tryz.underlying122
  a23 := Tryz.isAgg122
  z23 := Tryz.sizeOf122
  v23 := Tryz.zeroValue122
  t26 := Tryz.underlying9
  a26 := Tryz.isAgg9
  z26 := Tryz.sizeOf9
  v26 := Tryz.zeroValue9
  t27 := Tryz.underlying156
  a27 := Tryz.isAgg156
  z27 := Tryz.sizeOf156
  v27 := Tryz.zeroValue156
  t28 := Tryz.underlying157
  a28 := Tryz.isAgg157
  z28 := Tryz.sizeOf157
  v28 := Tryz.zeroValue157
  t33 := Tryz.underlying190
  a33 := Tryz.isAgg190
  z33 := Tryz.sizeOf190
  v33 := Tryz.zeroValue190 }
def Tryz.sorted74_ren : Go.Shelf.Ren := ⟨fun | 6 => 74 | 8 => 152 | 9 => 153 | 11 => 214 | 13 => 216 | 12 => 215 | 23 => 256 | 24 => 257 | 14 => 247 | 15 => 248 | 16 => 249 | 17 => 250 | 18 => 251 | 19 => 252 | 20 => 253 | 21 => 254 | 22 => 255 | 25 => 283 | 26 => 284 | 27 => 285 | 28 => 286 | 29 => 287 | 30 => 240 | 31 => 316 | n => n, fun | 26 => 9 | 28 => 157 | 24 => 61 | 0 => 0 | 3 => 3 | 37 => 339 | 48 => 363 | 50 => 163 | 4 => 4 | 40 => 356 | 39 => 355 | 45 => 173 | 5 => 5 | 9 => 9 | 51 => 386 | 55 => 390 | 57 => 410 | 58 => 212 | 33 => 190 | n => n, fun | n => n⟩
theorem Tryz.sorted74 : Go.Proofs.SlLaysZ.n6 Tryz.prog Tryz.sorted74_ren := {
  mixed := by kernel_rfl
  f6 := ⟨Tryz.f74.name, by decide, Tryz.func74.trans (congrArg some (by kernel_rfl))⟩
  f8 := ⟨Tryz.f152.name, by decide, Tryz.func152.trans (congrArg some (by kernel_rfl))⟩
  f11 := ⟨Tryz.f214.name, by decide, Tryz.func214.trans (congrArg some (by kernel_rfl))⟩
  t0 := Tryz.underlying0
  a0 := Tryz.isAgg0
  z0 := Tryz.sizeOf0
  v0 := Tryz.zeroValue0
  t24 := Tryz.underlying61
  a24 := Tryz.isAgg61
  z24 := Tryz.sizeOf61
  v24 := Tryz.zeroValue61
  t26 := Tryz.underlying9
  a26 := Tryz.isAgg9
  z26 := Tryz.sizeOf9
  v26 := Tryz.zeroValue9
  t28 := Tryz.underlying157
  a28 := Tryz.isAgg157
  z28 := Tryz.sizeOf157
  v28 := Tryz.zeroValue157
  i26 := by kernel_rfl }
def Tryz.sort153_ren : Go.Shelf.Ren := ⟨fun | 6 => 153 | 8 => 216 | 9 => 215 | 19 => 256 | 20 => 257 | 21 => 247 | 22 => 248 | 23 => 249 | 24 => 250 | 25 => 251 | 26 => 252 | 27 => 253 | 28 => 254 | 29 => 255 | 36 => 283 | 31 => 284 | 32 => 285 | 37 => 286 | 38 => 287 | 39 => 240 | 41 => 316 | n => n, fun | 27 => 61 | 29 => 9 | 3 => 3 | 32 => 339 | 26 => 61 | 0 => 0 | 44 => 363 | 46 => 163 | 4 => 4 | 36 => 356 | 35 => 355 | 41 => 173 | 5 => 5 | 9 => 9 | 53 => 386 | 57 => 390 | 63 => 410 | 64 => 212 | n => n, fun | n => n⟩
theorem Tryz.sort153 : Go.Proofs.SlLaysM.n6 Tryz.prog Tryz.sort153_ren := {
  mixed := by kernel_rfl
  f6 := ⟨Tryz.f153.name, by decide, Tryz.func153.trans (congrArg some (by kernel_rfl))⟩
  f8 := Tryz.func216.trans (congrArg some (by kernel_rfl))
  f9 := ⟨Tryz.f215.name, by decide, Tryz.func215.trans (congrArg some (by kernel_rfl))⟩
  f19 := Tryz.func256.trans (congrArg some (by kernel_rfl))
  f20 := Tryz.func257.trans (congrArg some (by kernel_rfl))
  f21 := ⟨Tryz.f247.name, by decide, Tryz.func247.trans (congrArg some (by kernel_rfl))⟩
  f22 := ⟨Tryz.f248.name, by decide, Tryz.func248.trans (congrArg some (by kernel_rfl))⟩
  f23 := ⟨Tryz.f249.name, by decide, Tryz.func249.trans (congrArg some (by kernel_rfl))⟩
  f24 := ⟨Tryz.f250.name, by decide, Tryz.func250.trans (congrArg some (by kernel_rfl))⟩
  f25 := ⟨Tryz.f251.name, by decide, Tryz.func251.trans (congrArg some (by kernel_rfl))⟩
  f26 := ⟨Tryz.f252.name, by decide, Tryz.func252.trans (congrArg some (by kernel_rfl))⟩
  f27 := ⟨Tryz.f253.name, by decide, Tryz.func253.trans (congrArg some (by kernel_rfl))⟩
  f28 := ⟨Tryz.f254.name, by decide, Tryz.func254.trans (congrArg some (by kernel_rfl))⟩
  f29 := ⟨Tryz.f255.name, by decide, Tryz.func255.trans (congrArg some (by kernel_rfl))⟩
  f31 := Tryz.func284.trans (congrArg some (by kernel_rfl))
  f32 := Tryz.func285.trans (congrArg some (by kernel_rfl))
  f36 := ⟨Tryz.f283.name, by decide, Tryz.func283.trans (congrArg some (by kernel_rfl))⟩
  f37 := ⟨Tryz.f286.name, by decide, Tryz.func286.trans (congrArg some (by kernel_rfl))⟩
  f38 := ⟨Tryz.f287.name, by decide, Tryz.func287.trans (congrArg some (by kernel_rfl))⟩
  f39 := ⟨Tryz.f240.name, by decide, Tryz.func240.trans (congrArg some (by kernel_rfl))⟩
  f41 := ⟨Tryz.f316.name, by decide, Tryz.func316.trans (congrArg some (by kernel_rfl))⟩
  t0 := Tryz.underlying0
  a0 := Tryz.isAgg0
  z0 := Tryz.sizeOf0
  v0 := Tryz.zeroValue0
  t3 := Tryz.underlying3
  a3 := Tryz.isAgg3
  z3 := Tryz.sizeOf3
  v3 := Tryz.zeroValue3
  t4 := Tryz.underlying4
  a4 := Tryz.isAgg4
  z4 := Tryz.sizeOf4
  v4 := Tryz.zeroValue4
  t5 := Tryz.underlying5
  a5 := Tryz.isAgg5
  z5 := Tryz.sizeOf5
  v5 := Tryz.zeroValue5
  t9 := Tryz.underlying9
  a9 := Tryz.isAgg9
  z9 := Tryz.sizeOf9
  v9 := Tryz.zeroValue9
  t26 := Tryz.underlying61
  a26 := Tryz.isAgg61
  z26 := Tryz.sizeOf61
  v26 := Tryz.zeroValue61
  t27 := Tryz.underlying61
  a27 := Tryz.isAgg61
  z27 := Tryz.sizeOf61
  v27 := Tryz.zeroValue61
  t29 := Tryz.underlying9
  a29 := Tryz.isAgg9
  z29 := Tryz.sizeOf9
  v29 := Tryz.zeroValue9
  t32 := Tryz.underlying339
  a32 := Tryz.isAgg339
  z32 := Tryz.sizeOf339
  v32 := Tryz.zeroValue339
  t35 := Tryz.underlying355
  a35 := Tryz.isAgg355
  z35 := Tryz.sizeOf355
  v35 := Tryz.zeroValue355
  t36 := Tryz.underlying356
  a36 := Tryz.isAgg356
  z36 := Tryz.sizeOf356
  v36 := Tryz.zeroValue356
  t41 := Tryz.underlying173
  a41 := Tryz.isAgg173
  z41 := Tryz.sizeOf173
  v41 := Tryz.zeroValue173
  t44 := Tryz.underlying363
  a44 := Tryz.isAgg363
  z44 := Tryz.sizeOf363
  v44 := Tryz.zeroValue363
  t46 := Tryz.underlying163
  a46 := Tryz.isAgg163
  z46 := Tryz.sizeOf163
  v46 := Tryz.zeroValue163
  t53 := Tryz.underlying386
  a53 := Tryz.isAgg386
  z53 := Tryz.sizeOf386
  v53 := Tryz.zeroValue386
  t57 := Tryz.underlying390
  a57 := Tryz.isAgg390
  z57 := Tryz.sizeOf390
  v57 := Tryz.zeroValue390
  t63 := Tryz.underlying410
  a63 := Tryz.isAgg410
  z63 := Tryz.sizeOf410
  v63 := Tryz.zeroValue410
  t64 := Tryz.underlying212
  a64 := Tryz.isAgg212
  z64 := Tryz.sizeOf212
  v64 := Tryz.zeroValue212 }

theorem Tryz.sorts74 (m : Nat) : AnyZ.SortsIn Tryz.prog Tryz.sorted74_ren Fence.wide m :=
  ⟨fun blk off cap ss W hH hblk hsz => callsIn_wide.2 (AnyM.slices_Sort_string Tryz.sort153 blk off cap ss W hH hblk hsz),
   fun p cap W => callsIn_wide.2 (AnyM.slices_Sort_string_none Tryz.sort153 p cap W)⟩

theorem Tryz.maps_Keys_75 (mb : Option Nat) (W : World) : CallsIn Fence.wide 5 Tryz.prog 75 #[.map mb] W fun e w' => e = .returned (.func (.func 154) #[] #[.pointer (some ⟨W.heap.size, 0, none⟩)]) ∧ w' = W.alloc (.cells #[.map mb] 122) :=
  AnyZ.keys_in Tryz.keys75 Fence.wide 5 trivial rfl mb W

set_option maxHeartbeats 1000000 in
theorem Tryz.slices_Sorted_keys_74_75 {H : Type} (b nn : Nat) (D0 : DataW H) (R : Value → Option (DataW H × List MemPlace)) (w : World) (hown : w.ownsMap Tryz.prog 9 R b nn D0) (hmax : Maps.size D0 ≤ maxLen) (hbytes : Maps.size D0 * 16 ≤ 140737488355328) :
    CallsIn Fence.wide 5 Tryz.prog 74 #[.func (.func 154) #[] #[.pointer (some ⟨w.heap.size, 0, none⟩)]] (w.alloc (.cells #[.map (some b)] 122)) fun e w' => ∃ (v : Value) (ss : List (List UInt8)), e = .returned v ∧ ss.Perm (strKeys D0) ∧
      w'.ownsRow (w.alloc (.cells #[.map (some b)] 122)).heap.size 9 1 v ss.length ((ss.mergeSort (fun x y => decide (x ≤ y))).map encStr) ∧ (v = .slice none 0 0 ↔ ss = []) ∧ Below (w.alloc (.cells #[.map (some b)] 122)).heap.size (w.alloc (.cells #[.map (some b)] 122)) w' := by
  have hbl := hown.lt
  have hseq : SeqGives Fence.wide 2 Tryz.prog 154 #[.pointer (some ⟨w.heap.size, 0, none⟩)] encStr (fun ss => ss.Perm (strKeys D0)) (Maps.size D0) (w.alloc (.cells #[.map (some b)] 122)) :=
    AnyZ.keys_gives (ρ := Tryz.keys75_ren) { Tryz.keys75 with } Fence.wide _ trivial rfl (by omega) w.heap.size b nn D0 _ (by simp) (by simp) (by
      obtain ⟨es, clock, hb, Ft, hs, hD⟩ := hown
      exact ⟨es, clock, (Below.heap_alloc _ _ b hbl).trans hb, Ft, hs, hD⟩)
  exact AnyZ.sorted_in Tryz.sorted74 Fence.wide 5 trivial trivial trivial trivial rfl (by omega) (Tryz.sorts74 _) (enters_of Tryz.func153 (by kernel_rfl) rfl) 154 #[.pointer (some ⟨w.heap.size, 0, none⟩)] trivial (enters_of Tryz.func154 (by kernel_rfl) rfl) _ _ hmax hbytes _ hseq

set_option maxHeartbeats 1000000 in
theorem Tryz.slices_Sorted_keys_nil_74_75 (w : World) :
    CallsIn Fence.wide 5 Tryz.prog 74 #[.func (.func 154) #[] #[.pointer (some ⟨w.heap.size, 0, none⟩)]] (w.alloc (.cells #[.map none] 122)) fun e w' => ∃ (v : Value) (ss : List (List UInt8)), e = .returned v ∧ ss = [] ∧
      w'.ownsRow (w.alloc (.cells #[.map none] 122)).heap.size 9 1 v ss.length ((ss.mergeSort (fun x y => decide (x ≤ y))).map encStr) ∧ (v = .slice none 0 0 ↔ ss = []) ∧ Below (w.alloc (.cells #[.map none] 122)).heap.size (w.alloc (.cells #[.map none] 122)) w' := by
  have hseq : SeqGives Fence.wide 2 Tryz.prog 154 #[.pointer (some ⟨w.heap.size, 0, none⟩)] encStr (fun ss : List (List UInt8) => ss = []) 0 (w.alloc (.cells #[.map none] 122)) :=
    AnyZ.keys_gives_nil (ρ := Tryz.keys75_ren) { Tryz.keys75 with } Fence.wide _ trivial rfl w.heap.size _ (by simp) (by simp)
  exact AnyZ.sorted_in Tryz.sorted74 Fence.wide 5 trivial trivial trivial trivial rfl (by omega) (Tryz.sorts74 _) (enters_of Tryz.func153 (by kernel_rfl) rfl) 154 #[.pointer (some ⟨w.heap.size, 0, none⟩)] trivial (enters_of Tryz.func154 (by kernel_rfl) rfl) _ 0 (Nat.zero_le _) (by omega) _ hseq


def Tryz.keys155_ren : Go.Shelf.Ren := ⟨fun | 7 => 155 | 10 => 217 | n => n, fun | 23 => 159 | 26 => 9 | 3 => 3 | 28 => 157 | 0 => 0 | 27 => 156 | 33 => 190 | 4 => 4 | n => n, fun | n => n⟩
theorem Tryz.keys155 : Go.Proofs.SlLaysZ.n7 Tryz.prog Tryz.keys155_ren := {
  mixed := by kernel_rfl
  f7 := ⟨Tryz.f155.name, by decide, Tryz.func155.trans (congrArg some (by kernel_rfl))⟩
  f10 := ⟨Tryz.f217.name, by decide, Tryz.func217.trans (congrArg some (by kernel_rfl))⟩
  t0 := Tryz.underlying0
  a0 := Tryz.isAgg0
  z0 := Tryz.sizeOf0
  v0 := Tryz.zeroValue0
  t4 := Tryz.underlying4
  a4 := Tryz.isAgg4
  z4 := Tryz.sizeOf4
  v4 := Tryz.zeroValue4
  t23 := Tryz.underlying159
  a23 := Tryz.isAgg159
  z23 := Tryz.sizeOf159
  v23 := Tryz.zeroValue159
  t26 := Tryz.underlying9
  a26 := Tryz.isAgg9
  z26 := Tryz.sizeOf9
  v26 := Tryz.zeroValue9
  t27 := Tryz.underlying156
  a27 := Tryz.isAgg156
  z27 := Tryz.sizeOf156
  v27 := Tryz.zeroValue156
  t28 := Tryz.underlying157
  a28 := Tryz.isAgg157
  z28 := Tryz.sizeOf157
  v28 := Tryz.zeroValue157
  t33 := Tryz.underlying190
  a33 := Tryz.isAgg190
  z33 := Tryz.sizeOf190
  v33 := Tryz.zeroValue190 }


theorem Tryz.maps_Keys_155 (mb : Option Nat) (W : World) : CallsIn Fence.wide 5 Tryz.prog 155 #[.map mb] W fun e w' => e = .returned (.func (.func 217) #[] #[.pointer (some ⟨W.heap.size, 0, none⟩)]) ∧ w' = W.alloc (.cells #[.map mb] 159) :=
  AnyZ.keys_in Tryz.keys155 Fence.wide 5 trivial rfl mb W

set_option maxHeartbeats 1000000 in
theorem Tryz.slices_Sorted_keys_74_155 {H : Type} (b nn : Nat) (D0 : DataW H) (R : Value → Option (DataW H × List MemPlace)) (w : World) (hown : w.ownsMap Tryz.prog 9 R b nn D0) (hmax : Maps.size D0 ≤ maxLen) (hbytes : Maps.size D0 * 16 ≤ 140737488355328) :
    CallsIn Fence.wide 5 Tryz.prog 74 #[.func (.func 217) #[] #[.pointer (some ⟨w.heap.size, 0, none⟩)]] (w.alloc (.cells #[.map (some b)] 159)) fun e w' => ∃ (v : Value) (ss : List (List UInt8)), e = .returned v ∧ ss.Perm (strKeys D0) ∧
      w'.ownsRow (w.alloc (.cells #[.map (some b)] 159)).heap.size 9 1 v ss.length ((ss.mergeSort (fun x y => decide (x ≤ y))).map encStr) ∧ (v = .slice none 0 0 ↔ ss = []) ∧ Below (w.alloc (.cells #[.map (some b)] 159)).heap.size (w.alloc (.cells #[.map (some b)] 159)) w' := by
  have hbl := hown.lt
  have hseq : SeqGives Fence.wide 2 Tryz.prog 217 #[.pointer (some ⟨w.heap.size, 0, none⟩)] encStr (fun ss => ss.Perm (strKeys D0)) (Maps.size D0) (w.alloc (.cells #[.map (some b)] 159)) :=
    AnyZ.keys_gives (ρ := Tryz.keys155_ren) { Tryz.keys155 with } Fence.wide _ trivial rfl (by omega) w.heap.size b nn D0 _ (by simp) (by simp) (by
      obtain ⟨es, clock, hb, Ft, hs, hD⟩ := hown
      exact ⟨es, clock, (Below.heap_alloc _ _ b hbl).trans hb, Ft, hs, hD⟩)
  exact AnyZ.sorted_in Tryz.sorted74 Fence.wide 5 trivial trivial trivial trivial rfl (by omega) (Tryz.sorts74 _) (enters_of Tryz.func153 (by kernel_rfl) rfl) 217 #[.pointer (some ⟨w.heap.size, 0, none⟩)] trivial (enters_of Tryz.func217 (by kernel_rfl) rfl) _ _ hmax hbytes _ hseq

set_option maxHeartbeats 1000000 in
theorem Tryz.slices_Sorted_keys_nil_74_155 (w : World) :
    CallsIn Fence.wide 5 Tryz.prog 74 #[.func (.func 217) #[] #[.pointer (some ⟨w.heap.size, 0, none⟩)]] (w.alloc (.cells #[.map none] 159)) fun e w' => ∃ (v : Value) (ss : List (List UInt8)), e = .returned v ∧ ss = [] ∧
      w'.ownsRow (w.alloc (.cells #[.map none] 159)).heap.size 9 1 v ss.length ((ss.mergeSort (fun x y => decide (x ≤ y))).map encStr) ∧ (v = .slice none 0 0 ↔ ss = []) ∧ Below (w.alloc (.cells #[.map none] 159)).heap.size (w.alloc (.cells #[.map none] 159)) w' := by
  have hseq : SeqGives Fence.wide 2 Tryz.prog 217 #[.pointer (some ⟨w.heap.size, 0, none⟩)] encStr (fun ss : List (List UInt8) => ss = []) 0 (w.alloc (.cells #[.map none] 159)) :=
    AnyZ.keys_gives_nil (ρ := Tryz.keys155_ren) { Tryz.keys155 with } Fence.wide _ trivial rfl w.heap.size _ (by simp) (by simp)
  exact AnyZ.sorted_in Tryz.sorted74 Fence.wide 5 trivial trivial trivial trivial rfl (by omega) (Tryz.sorts74 _) (enters_of Tryz.func153 (by kernel_rfl) rfl) 217 #[.pointer (some ⟨w.heap.size, 0, none⟩)] trivial (enters_of Tryz.func217 (by kernel_rfl) rfl) _ 0 (Nat.zero_le _) (by omega) _ hseq



end Go.Proofs
