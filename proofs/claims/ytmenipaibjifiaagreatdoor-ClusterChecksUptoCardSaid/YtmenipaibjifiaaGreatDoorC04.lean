/-
Bytes of names: low, word, inner (package labels; the reference's). No condition: every byte.
Short keys, values, parts of names (package labels; the reference's): every string of at most 2^40 bytes.
The keys of the maps of package domain (strings, ints, structs of strings), as association lists' keys. No condition.
-/
import Derived.Test.YtmenipaibjifiaaGreatDoorProg
import Derived.Test.YtmenipaibjifiaaGreatDoorC02
import Derived.KernelRfl
set_option linter.unusedVariables false
set_option linter.unusedSimpArgs false
namespace Go.Proofs.YtmenipaibjifiaaGreatDoor
open Go.RowKit

def lowI (c : Int) : Bool := (decide (97 ≤ c) && decide (c ≤ 122)) || (decide (48 ≤ c) && decide (c ≤ 57))
def wordI (c : Int) : Bool := lowI c || (decide (65 ≤ c) && decide (c ≤ 90))
def innerI (c : Int) : Bool := wordI c || c == 45 || c == 95 || c == 46

theorem ret_bool {R : Ending → World → Prop} {a b : Bool} {w : World} (h : R (.returned (.bool b)) w) (e : a = b) : R (.returned (.bool a)) w := e ▸ h
theorem ret_int {R : Ending → World → Prop} {k : IntKind} {a b : Int} {w : World} (h : R (.returned (.int k b)) w) (e : a = b) : R (.returned (.int k a)) w := e ▸ h
theorem ret_val {R : Ending → World → Prop} {a b : Value} {w : World} (h : R (.returned b) w) (e : a = b) : R (.returned a) w := e ▸ h

theorem low_k (R : Ending → World → Prop) (w : World) (c : Int) (hR : R (.returned (.bool (lowI c))) w) : Calls Tryz.prog 175 #[.int .u8 c] w R := by
  go_enter Tryz.func175, Tryz.ntmps175
  go_wp2
  all_goals (refine ret_bool hR ?_; unfold lowI; simp [*] <;> omega)
theorem rlow_k (R : Ending → World → Prop) (w : World) (c : Int) (hR : R (.returned (.bool (lowI c))) w) : Calls Tryz.prog 241 #[.int .u8 c] w R := by
  go_enter Tryz.func241, Tryz.ntmps241
  go_wp2
  all_goals (refine ret_bool hR ?_; unfold lowI; simp [*] <;> omega)
theorem word_k (R : Ending → World → Prop) (w : World) (c : Int) (hR : R (.returned (.bool (wordI c))) w) : Calls Tryz.prog 230 #[.int .u8 c] w R := by
  go_enter Tryz.func230, Tryz.ntmps230
  go_wp2_with (go_at_call 175; refine low_k _ _ _ ?_)
  all_goals (refine ret_bool hR ?_; unfold wordI; simp [*] <;> omega)
theorem rword_k (R : Ending → World → Prop) (w : World) (c : Int) (hR : R (.returned (.bool (wordI c))) w) : Calls Tryz.prog 244 #[.int .u8 c] w R := by
  go_enter Tryz.func244, Tryz.ntmps244
  go_wp2_with (go_at_call 241; refine rlow_k _ _ _ ?_)
  all_goals (refine ret_bool hR ?_; unfold wordI; simp [*] <;> omega)
theorem inner_k (R : Ending → World → Prop) (w : World) (c : Int) (hR : R (.returned (.bool (innerI c))) w) : Calls Tryz.prog 231 #[.int .u8 c] w R := by
  go_enter Tryz.func231, Tryz.ntmps231
  go_wp2_with (go_at_call 230; refine word_k _ _ _ ?_)
  all_goals (refine ret_bool hR ?_; unfold innerI; simp_all)
theorem rinner_k (R : Ending → World → Prop) (w : World) (c : Int) (hR : R (.returned (.bool (innerI c))) w) : Calls Tryz.prog 243 #[.int .u8 c] w R := by
  go_enter Tryz.func243, Tryz.ntmps243
  go_wp2_with (go_at_call 244; refine rword_k _ _ _ ?_)
  all_goals (refine ret_bool hR ?_; unfold innerI; simp_all)
end Go.Proofs.YtmenipaibjifiaaGreatDoor

namespace Go.Proofs.YtmenipaibjifiaaGreatDoor
open Go.RowKit

/-- the code of a byte -/
def cd (s : ByteArray) (i : Nat) : Int := ((s.data.toList.getD i 0).toNat : Int)
def allI (p : Int → Bool) (s : ByteArray) : Bool := s.data.toList.all fun b => p (b.toNat : Int)
theorem cd_at (s : ByteArray) (i : Nat) (h : i < s.size) : (((s[i]'h).toNat : Nat) : Int) = cd s i := by
  unfold cd
  rw [List.getD_eq_getElem?_getD, List.getElem?_eq_getElem (by rw [Array.length_toList]; exact h)]
  rfl
theorem dlen (s : ByteArray) : s.data.toList.length = s.size := by rw [Array.length_toList]; rfl
theorem allI_iff (p : Int → Bool) (s : ByteArray) : allI p s = true ↔ ∀ j, j < s.size → p (cd s j) = true := by
  unfold allI cd
  rw [List.all_eq_true]
  constructor
  · intro h j hj
    have hj' : j < s.data.toList.length := by rw [dlen]; exact hj
    rw [List.getD_eq_getElem?_getD, List.getElem?_eq_getElem hj']
    exact h _ (List.getElem_mem hj')
  · intro h b hb
    obtain ⟨j, hj, rfl⟩ := List.mem_iff_getElem.1 hb
    have := h j (by rw [← dlen]; exact hj)
    rwa [List.getD_eq_getElem?_getD, List.getElem?_eq_getElem hj] at this
theorem allI_not {p : Int → Bool} {s : ByteArray} {j : Nat} (hj : j < s.size) (h : p (cd s j) = false) : allI p s = false := by
  cases ha : allI p s with
  | false => rfl
  | true => rw [(allI_iff p s).1 ha j hj] at h; cases h
def shortB (s : ByteArray) : Bool := decide (1 ≤ s.size) && decide (s.size ≤ 63) && wordI (cd s 0) && wordI (cd s (s.size - 1)) && allI innerI s
def valueB (s : ByteArray) : Bool := decide (s.size = 0) || (decide (s.size ≤ 63) && (wordI (cd s 0) || decide (cd s 0 = 45)) && wordI (cd s (s.size - 1)) && allI innerI s)

theorem short_loop {s : ByteArray} {k : Nat} (hlt : k < s.size) (h : innerI (((s[k]'hlt).toNat : Nat) : Int) = false) : shortB s = false := by
  rw [cd_at] at h
  unfold shortB
  rw [allI_not hlt h, Bool.and_false]
theorem value_loop {s : ByteArray} {k : Nat} (hlt : k < s.size) (h : innerI (((s[k]'hlt).toNat : Nat) : Int) = false) : valueB s = false := by
  rw [cd_at] at h
  unfold valueB
  rw [allI_not hlt h, Bool.and_false, decide_eq_false (by omega)]; rfl

set_option maxHeartbeats 1000000 in
theorem short_k (R : Ending → World → Prop) (w : World) (s : ByteArray) (hs : s.size ≤ 1099511627776) (hR : R (.returned (.bool (shortB s))) w) : Calls Tryz.prog 229 #[.string s] w R := by
  by_cases h1 : s.size < 1
  · go_enter Tryz.func229, Tryz.ntmps229
    go_wp2_with fail
    all_goals (refine ret_bool hR ?_; unfold shortB; simp; omega)
  by_cases h2 : 63 < s.size
  · go_enter Tryz.func229, Tryz.ntmps229
    go_wp2_with fail
    all_goals (refine ret_bool hR ?_; unfold shortB; simp; omega)
  have c0 := cd_at s 0 (by omega)
  have c1 := cd_at s (s.size - 1) (by omega)
  have HS : Hid (shortB s = (wordI (cd s 0) && wordI (cd s (s.size - 1)) && allI innerI s)) := by
    show _ = _
    unfold shortB
    rw [decide_eq_true (show 1 ≤ s.size by omega), decide_eq_true (show s.size ≤ 63 by omega)]; rfl
  rw [← c0, ← c1] at HS
  clear c0 c1
  cases e0 : wordI (((s[0]'(by omega)).toNat : Nat) : Int) with
  | false =>
    rw [e0] at HS
    go_enter Tryz.func229, Tryz.ntmps229
    go_wp2_with (go_at_call 230; refine word_k _ _ _ ?_)
    all_goals (refine ret_bool hR ?_; rw [HS.out]; rfl)
  | true =>
  cases e1 : wordI (((s[s.size - 1]'(by omega)).toNat : Nat) : Int) with
  | false =>
    rw [e0, e1] at HS
    go_enter Tryz.func229, Tryz.ntmps229
    go_wp2_with (go_at_call 230; refine word_k _ _ _ ?_)
    all_goals (refine ret_bool hR ?_; rw [HS.out]; rfl)
  | true =>
  rw [e0, e1] at HS
  go_enter Tryz.func229, Tryz.ntmps229
  go_wp2_with (go_at_call 230; refine word_k _ _ _ ?_)
  clear e0 e1
  go_loop [3, 29] (fun _ i => ∃ k : Nat, k ≤ s.size ∧ i = .int .i64 k ∧ ∀ j, j < k → innerI (cd s j) = true) (fun _ i => s.size - (intOf i).toNat)
  case atStart => exact ⟨0, Nat.zero_le _, rfl, fun j hj => absurd hj (Nat.not_lt_zero _)⟩
  case round =>
    obtain ⟨k, hk, rfl, hin⟩ := hrel
    have Hin := Lib.hid hin
    clear hin
    by_cases hlt : k < s.size
    · go_wp2_with (go_at_call 231; refine inner_k _ _ _ ?_)
      · rename_i hf
        refine ret_bool hR (short_loop hlt (by simpa using hf)).symm
      · rename_i hf
        have hf' : innerI (cd s k) = true := by rw [← cd_at s k hlt]; simpa using hf
        go_round
        case rel => exact ⟨k + 1, by omega, by go_num, fun j hj => by
          rcases Nat.lt_or_ge j k with h | h
          · exact Hin.out j h
          · obtain rfl : j = k := by omega
            exact hf'⟩
        case measure => simp [intOf]; omega
    · go_wp2
      refine ret_bool hR ?_
      rw [HS.out, (allI_iff innerI s).2 (fun j hj => Hin.out j (by omega))]; rfl
end Go.Proofs.YtmenipaibjifiaaGreatDoor

namespace Go.Proofs.YtmenipaibjifiaaGreatDoor
open Go.RowKit

def spotV (p : ByteArray × ByteArray) : Value := .agg #[.string p.1, .string p.2]
def tagV (p : (ByteArray × ByteArray) × ByteArray × ByteArray) : Value := .agg #[.string p.1.1, .string p.1.2, .string p.2.1, .string p.2.2]

theorem spot_eqIn (w : World) (a b : ByteArray × ByteArray) (d : Nat) : (Op.equalIn (d + 2) 143 (spotV a) (spotV b)).run Tryz.prog w = .ok (decide (a = b)) w := by
  have hp : Tryz.prog.stoodInHeld 143 = false := by kernel_rfl
  obtain ⟨a1, a2⟩ := a
  obtain ⟨b1, b2⟩ := b
  unfold spotV
  rw [run_equalIn_struct w (d + 1) _ _ _ (by kernel_rfl) hp]
  have hs := fun x y => run_equalIn_string (P := Tryz.prog) w d 9 x y Tryz.underlying9
  simp only [go_sem, Program.fieldsOf, Tryz.underlying143]
  simp [hs]
  by_cases h1 : a1 = b1 <;> by_cases h2 : a2 = b2 <;> simp [h1, h2, ba_toList_inj]
theorem spot_check (w : World) (em : Bool) (a : ByteArray × ByteArray) (n : Nat) : (Instr.checkKey em (n + 2) 143 (spotV a)).run Tryz.prog w = .ok () w := by
  simp [spotV, Instr.checkKey, run_underlying Tryz.underlying143, part, Tryz.isAgg9, Tryz.underlying9, run_underlying]
theorem spotK : KeyT Tryz.prog 143 spotV :=
  .of_eq Tryz.underlying143 (fun w a b => spot_eqIn w a b 9998) (fun w em k => spot_check w em k 9998) (fun k => by simp [spotV, Instr.sameBits, ba_beq])
theorem tag_eqIn (w : World) (a b : (ByteArray × ByteArray) × ByteArray × ByteArray) (d : Nat) : (Op.equalIn (d + 3) 255 (tagV a) (tagV b)).run Tryz.prog w = .ok (decide (a = b)) w := by
  have hp : Tryz.prog.stoodInHeld 255 = false := by kernel_rfl
  obtain ⟨⟨a1, a2⟩, a3, a4⟩ := a
  obtain ⟨⟨b1, b2⟩, b3, b4⟩ := b
  unfold tagV
  rw [run_equalIn_struct w (d + 2) _ _ _ (by kernel_rfl) hp]
  have hs := fun x y => run_equalIn_string (P := Tryz.prog) w (d + 1) 9 x y Tryz.underlying9
  have h0 := spot_eqIn w (a1, a2) (b1, b2) d
  simp only [spotV] at h0
  simp only [go_sem, Program.fieldsOf, Tryz.underlying255]
  simp [hs, h0]
  by_cases h1 : a1 = b1 <;> by_cases h2 : a2 = b2 <;> by_cases h3 : a3 = b3 <;> by_cases h4 : a4 = b4 <;> simp [h1, h2, h3, h4, ba_toList_inj]
theorem tag_check (w : World) (em : Bool) (a : (ByteArray × ByteArray) × ByteArray × ByteArray) (n : Nat) : (Instr.checkKey em (n + 3) 255 (tagV a)).run Tryz.prog w = .ok () w := by
  have h0 := spot_check w em (a.1.1, a.1.2) n
  simp only [spotV] at h0
  unfold tagV Instr.checkKey
  simp [run_underlying Tryz.underlying255, part, Tryz.isAgg9, Tryz.isAgg143, Tryz.sizeOf143, h0, Instr.checkKey, Tryz.underlying9, run_underlying]
theorem tagK : KeyT Tryz.prog 255 tagV :=
  .of_eq Tryz.underlying255 (fun w a b => tag_eqIn w a b 9997) (fun w em k => tag_check w em k 9997) (fun k => by simp [tagV, Instr.sameBits, ba_beq])
theorem strK : KeyT Tryz.prog 9 Value.string := .string Tryz.underlying9
theorem intK : KeyT Tryz.prog 3 (Value.int .i64) := .int Tryz.underlying3
end Go.Proofs.YtmenipaibjifiaaGreatDoor
