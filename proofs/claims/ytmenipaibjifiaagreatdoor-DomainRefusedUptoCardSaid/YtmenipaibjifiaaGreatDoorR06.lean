/-
  math/bits.OnesCount64, walked.
-/
import Derived.Test.YtmenipaibjifiaaGreatDoorR02
import Derived.Test.YtmenipaibjifiaaGreatDoorProg
import Derived.KernelRfl
import Derived.Lib.Hide
import Derived.Laws.Bits64b
set_option linter.unusedVariables false
set_option linter.unusedSimpArgs false
namespace Go.Proofs.YtmenipaibjifiaaGreatDoor
open Go.RowKit Go.BigFrame

theorem wrapU (n : Nat) (h : n < 18446744073709551616) : IntKind.u64.wrap (n : Int) = n := by
  simp [IntKind.wrap, IntKind.bits, IntKind.signed]
  omega
theorem andU (a b : Nat) (ha : a < 18446744073709551616) (hb : b < 18446744073709551616) : bits .and .u64 (a : Int) (b : Int) = ((a &&& b : Nat) : Int) := bits_and_u64_nat a b ha hb
theorem wrapI (n : Nat) (h : n < 9223372036854775808) : wrap64 (n : Int) = n := by
  unfold wrap64
  omega
theorem andI (a b : Nat) (ha : a < 9223372036854775808) (hb : b < 9223372036854775808) : bits .and .i64 (a : Int) (b : Int) = ((a &&& b : Nat) : Int) := by
  have hx : a &&& b < 2 ^ 63 := Nat.and_lt_two_pow _ (by omega)
  have h1 : (BitVec.ofInt 64 (a : Int)).toNat = a := by
    rw [BitVec.ofInt_natCast, BitVec.toNat_ofNat]; exact Nat.mod_eq_of_lt (by omega)
  have h2 : (BitVec.ofInt 64 (b : Int)).toNat = b := by
    rw [BitVec.ofInt_natCast, BitVec.toNat_ofNat]; exact Nat.mod_eq_of_lt (by omega)
  show IntKind.i64.wrap ((BitVec.ofInt 64 (a : Int) &&& BitVec.ofInt 64 (b : Int)).toNat : Int) = _
  rw [BitVec.toNat_and, h1, h2]
  generalize a &&& b = q at *
  simp [IntKind.wrap, IntKind.bits, IntKind.signed]
  omega
theorem divU (a b : Nat) : ((a : Int) / (b : Int)) = ((a / b : Nat) : Int) := by simp

set_option maxRecDepth 100000 in
theorem ones_k (R : Ending → World → Prop) (w : World) (x : Nat) (hx : x < 18446744073709551616) (hR : R (.returned (.int .i64 (pop x 64))) w) : Calls Tryz.prog 163 #[.int .u64 x] w R := by
  have HR := Lib.hid hR
  clear hR
  go_enter Tryz.func163, Tryz.ntmps163
  go_wp2_with fail
  obtain ⟨b0, b1, b2, b3, b4, b5, b6, b7, g1, g2, g3, l0, l1, l2, l3, l4, l5, l6, l7, hC, hP⟩ := oABC x hx
  obtain ⟨s1, s2, s3, s4, s5⟩ := oSum b0 b1 b2 b3 b4 b5 b6 b7 l0 l1 l2 l3 l4 l5 l6 l7 _ _ _ _ hC rfl rfl rfl
  have eA : IntKind.u64.wrap (bits BinOp.and IntKind.u64 ((x : Int) / 2) 6148914691236517205 + bits BinOp.and IntKind.u64 (x : Int) 6148914691236517205) = ((oA x : Nat) : Int) := by
    rw [show ((x : Int) / 2) = ((x / 2 : Nat) : Int) from rfl, show (6148914691236517205 : Int) = ((6148914691236517205 : Nat) : Int) from rfl, andU _ _ (by omega) (by omega), andU _ _ hx (by omega), ← Int.natCast_add]
    exact wrapU _ g1
  simp only [eA]
  generalize oA x = a at *
  have eB : IntKind.u64.wrap (bits BinOp.and IntKind.u64 ((a : Int) / 4) 3689348814741910323 + bits BinOp.and IntKind.u64 (a : Int) 3689348814741910323) = ((oB a : Nat) : Int) := by
    rw [show ((a : Int) / 4) = ((a / 4 : Nat) : Int) from rfl, show (3689348814741910323 : Int) = ((3689348814741910323 : Nat) : Int) from rfl, andU _ _ (by omega) (by omega), andU _ _ g1 (by omega), ← Int.natCast_add]
    exact wrapU _ g2
  simp only [eB]
  generalize oB a = b at *
  have eC : bits BinOp.and IntKind.u64 (IntKind.u64.wrap ((b : Int) / 16 + (b : Int))) 1085102592571150095 = ((oC b : Nat) : Int) := by
    rw [show ((b : Int) / 16 + (b : Int)) = ((b / 16 + b : Nat) : Int) by simp, wrapU _ g3, show (1085102592571150095 : Int) = ((1085102592571150095 : Nat) : Int) from rfl, andU _ _ g3 (by omega)]
    rfl
  simp only [eC]
  generalize oC b = y at *
  have e1 : IntKind.u64.wrap ((y : Int) + (y : Int) / 256) = ((y + y / 256 : Nat) : Int) := by
    rw [show ((y : Int) + (y : Int) / 256) = ((y + y / 256 : Nat) : Int) by simp, wrapU _ s2]
  simp only [e1]
  generalize y + y / 256 = y1 at *
  have e2 : IntKind.u64.wrap ((y1 : Int) + (y1 : Int) / 65536) = ((y1 + y1 / 65536 : Nat) : Int) := by
    rw [show ((y1 : Int) + (y1 : Int) / 65536) = ((y1 + y1 / 65536 : Nat) : Int) by simp, wrapU _ s3]
  simp only [e2]
  generalize y1 + y1 / 65536 = y2 at *
  have e3 : IntKind.u64.wrap ((y2 : Int) + (y2 : Int) / 4294967296) = ((y2 + y2 / 4294967296 : Nat) : Int) := by
    rw [show ((y2 : Int) + (y2 : Int) / 4294967296) = ((y2 + y2 / 4294967296 : Nat) : Int) by simp, wrapU _ (by omega)]
  simp only [e3]
  generalize y2 + y2 / 4294967296 = y3 at *
  have e4 : bits BinOp.and IntKind.i64 (wrap64 (y3 : Int)) 127 = ((pop x 64 : Nat) : Int) := by
    rw [hP, ← s5, wrapI _ s4, show (127 : Int) = ((127 : Nat) : Int) from rfl, andI _ _ s4 (by omega)]
    exact congrArg _ (Nat.and_two_pow_sub_one_eq_mod y3 7)
  have hv := HR.out
  rw [← e4] at hv
  exact hv
end Go.Proofs.YtmenipaibjifiaaGreatDoor
