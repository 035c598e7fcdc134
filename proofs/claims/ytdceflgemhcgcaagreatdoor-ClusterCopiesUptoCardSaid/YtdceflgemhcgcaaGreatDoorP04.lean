/-
Bytes of names: low, word, inner (package labels; the reference's). No condition: every byte.
Short keys, values, parts of names (package labels; the reference's): every string of at most 2^40 bytes.
Keys of maps: texts, numbers.
-/
import Derived.Test.YtdceflgemhcgcaaGreatDoorProg
import Derived.Test.YtdceflgemhcgcaaGreatDoorP02
import Derived.KernelRfl
set_option linter.unusedVariables false
set_option linter.unusedSimpArgs false
namespace Go.Proofs.YtdceflgemhcgcaaGreatDoor
open Go.RowKit

def lowI (c : Int) : Bool := (decide (97 ≤ c) && decide (c ≤ 122)) || (decide (48 ≤ c) && decide (c ≤ 57))
def wordI (c : Int) : Bool := lowI c || (decide (65 ≤ c) && decide (c ≤ 90))
def innerI (c : Int) : Bool := wordI c || c == 45 || c == 95 || c == 46

theorem ret_bool {R : Ending → World → Prop} {a b : Bool} {w : World} (h : R (.returned (.bool b)) w) (e : a = b) : R (.returned (.bool a)) w := e ▸ h
theorem low_k (R : Ending → World → Prop) (w : World) (c : Int) (hR : R (.returned (.bool (lowI c))) w) : Calls Tryz.prog 114 #[.int .u8 c] w R := by
  go_enter Tryz.func114, Tryz.ntmps114
  go_wp2
  all_goals (refine ret_bool hR ?_; unfold lowI; simp [*] <;> omega)
theorem rlow_k (R : Ending → World → Prop) (w : World) (c : Int) (hR : R (.returned (.bool (lowI c))) w) : Calls Tryz.prog 212 #[.int .u8 c] w R := by
  go_enter Tryz.func212, Tryz.ntmps212
  go_wp2
  all_goals (refine ret_bool hR ?_; unfold lowI; simp [*] <;> omega)
theorem word_k (R : Ending → World → Prop) (w : World) (c : Int) (hR : R (.returned (.bool (wordI c))) w) : Calls Tryz.prog 200 #[.int .u8 c] w R := by
  go_enter Tryz.func200, Tryz.ntmps200
  go_wp2_with (go_at_call 114; refine low_k _ _ _ ?_)
  all_goals (refine ret_bool hR ?_; unfold wordI; simp [*] <;> omega)
theorem rword_k (R : Ending → World → Prop) (w : World) (c : Int) (hR : R (.returned (.bool (wordI c))) w) : Calls Tryz.prog 215 #[.int .u8 c] w R := by
  go_enter Tryz.func215, Tryz.ntmps215
  go_wp2_with (go_at_call 212; refine rlow_k _ _ _ ?_)
  all_goals (refine ret_bool hR ?_; unfold wordI; simp [*] <;> omega)
theorem inner_k (R : Ending → World → Prop) (w : World) (c : Int) (hR : R (.returned (.bool (innerI c))) w) : Calls Tryz.prog 201 #[.int .u8 c] w R := by
  go_enter Tryz.func201, Tryz.ntmps201
  go_wp2_with (go_at_call 200; refine word_k _ _ _ ?_)
  all_goals (refine ret_bool hR ?_; unfold innerI; simp_all)
theorem rinner_k (R : Ending → World → Prop) (w : World) (c : Int) (hR : R (.returned (.bool (innerI c))) w) : Calls Tryz.prog 214 #[.int .u8 c] w R := by
  go_enter Tryz.func214, Tryz.ntmps214
  go_wp2_with (go_at_call 215; refine rword_k _ _ _ ?_)
  all_goals (refine ret_bool hR ?_; unfold innerI; simp_all)
end Go.Proofs.YtdceflgemhcgcaaGreatDoor

namespace Go.Proofs.YtdceflgemhcgcaaGreatDoor
open Go.RowKit

/-- the code of a byte -/
def cd (s : ByteArray) (i : Nat) : Int := ((s.data.toList.getD i 0).toNat : Int)
def allI (p : Int → Bool) (s : ByteArray) : Bool := s.data.toList.all fun b => p (b.toNat : Int)
theorem cd_at (s : ByteArray) (i : Nat) (h : i < s.size) : (((s[i]'h).toNat : Nat) : Int) = cd s i := by
  unfold cd
  rw [List.getD_eq_getElem?_getD, List.getElem?_eq_getElem (by rw [Array.length_toList]; exact h)]
  rfl
theorem dlen (s : ByteArray) : s.data.toList.length = s.size := by rw [Array.length_toList]; rfl
theorem allI_iff (p : Int → Bool) (s : ByteArray) : allI p s = true ↔ ∀ j, j < s.size → p (cd s j) = true := by
  unfold allI cd
  rw [List.all_eq_true]
  constructor
  · intro h j hj
    have hj' : j < s.data.toList.length := by rw [dlen]; exact hj
    rw [List.getD_eq_getElem?_getD, List.getElem?_eq_getElem hj']
    exact h _ (List.getElem_mem hj')
  · intro h b hb
    obtain ⟨j, hj, rfl⟩ := List.mem_iff_getElem.1 hb
    have := h j (by rw [← dlen]; exact hj)
    rwa [List.getD_eq_getElem?_getD, List.getElem?_eq_getElem hj] at this
theorem allI_not {p : Int → Bool} {s : ByteArray} {j : Nat} (hj : j < s.size) (h : p (cd s j) = false) : allI p s = false := by
  cases ha : allI p s with
  | false => rfl
  | true => rw [(allI_iff p s).1 ha j hj] at h; cases h
def shortB (s : ByteArray) : Bool := decide (1 ≤ s.size) && decide (s.size ≤ 63) && wordI (cd s 0) && wordI (cd s (s.size - 1)) && allI innerI s
def valueB (s : ByteArray) : Bool := decide (s.size = 0) || (decide (s.size ≤ 63) && (wordI (cd s 0) || decide (cd s 0 = 45)) && wordI (cd s (s.size - 1)) && allI innerI s)

theorem short_loop {s : ByteArray} {k : Nat} (hlt : k < s.size) (h : innerI (((s[k]'hlt).toNat : Nat) : Int) = false) : shortB s = false := by
  rw [cd_at] at h
  unfold shortB
  rw [allI_not hlt h, Bool.and_false]
theorem value_loop {s : ByteArray} {k : Nat} (hlt : k < s.size) (h : innerI (((s[k]'hlt).toNat : Nat) : Int) = false) : valueB s = false := by
  rw [cd_at] at h
  unfold valueB
  rw [allI_not hlt h, Bool.and_false, decide_eq_false (by omega)]; rfl

set_option maxHeartbeats 1000000 in
theorem short_k (R : Ending → World → Prop) (w : World) (s : ByteArray) (hs : s.size ≤ 1099511627776) (hR : R (.returned (.bool (shortB s))) w) : Calls Tryz.prog 199 #[.string s] w R := by
  by_cases h1 : s.size < 1
  · go_enter Tryz.func199, Tryz.ntmps199
    go_wp2_with fail
    all_goals (refine ret_bool hR ?_; unfold shortB; simp; omega)
  by_cases h2 : 63 < s.size
  · go_enter Tryz.func199, Tryz.ntmps199
    go_wp2_with fail
    all_goals (refine ret_bool hR ?_; unfold shortB; simp; omega)
  have c0 := cd_at s 0 (by omega)
  have c1 := cd_at s (s.size - 1) (by omega)
  have HS : Hid (shortB s = (wordI (cd s 0) && wordI (cd s (s.size - 1)) && allI innerI s)) := by
    show _ = _
    unfold shortB
    rw [decide_eq_true (show 1 ≤ s.size by omega), decide_eq_true (show s.size ≤ 63 by omega)]; rfl
  rw [← c0, ← c1] at HS
  clear c0 c1
  cases e0 : wordI (((s[0]'(by omega)).toNat : Nat) : Int) with
  | false =>
    rw [e0] at HS
    go_enter Tryz.func199, Tryz.ntmps199
    go_wp2_with (go_at_call 200; refine word_k _ _ _ ?_)
    all_goals (refine ret_bool hR ?_; rw [HS.out]; rfl)
  | true =>
  cases e1 : wordI (((s[s.size - 1]'(by omega)).toNat : Nat) : Int) with
  | false =>
    rw [e0, e1] at HS
    go_enter Tryz.func199, Tryz.ntmps199
    go_wp2_with (go_at_call 200; refine word_k _ _ _ ?_)
    all_goals (refine ret_bool hR ?_; rw [HS.out]; rfl)
  | true =>
  rw [e0, e1] at HS
  go_enter Tryz.func199, Tryz.ntmps199
  go_wp2_with (go_at_call 200; refine word_k _ _ _ ?_)
  clear e0 e1
  go_loop [3, 29] (fun _ i => ∃ k : Nat, k ≤ s.size ∧ i = .int .i64 k ∧ ∀ j, j < k → innerI (cd s j) = true) (fun _ i => s.size - (intOf i).toNat)
  case atStart => exact ⟨0, Nat.zero_le _, rfl, fun j hj => absurd hj (Nat.not_lt_zero _)⟩
  case round =>
    obtain ⟨k, hk, rfl, hin⟩ := hrel
    have Hin := Lib.hid hin
    clear hin
    by_cases hlt : k < s.size
    · go_wp2_with (go_at_call 201; refine inner_k _ _ _ ?_)
      · rename_i hf
        refine ret_bool hR (short_loop hlt (by simpa using hf)).symm
      · rename_i hf
        have hf' : innerI (cd s k) = true := by rw [← cd_at s k hlt]; simpa using hf
        go_round
        case rel => exact ⟨k + 1, by omega, by go_num, fun j hj => by
          rcases Nat.lt_or_ge j k with h | h
          · exact Hin.out j h
          · obtain rfl : j = k := by omega
            exact hf'⟩
        case measure => simp [intOf]; omega
    · go_wp2
      refine ret_bool hR ?_
      rw [HS.out, (allI_iff innerI s).2 (fun j hj => Hin.out j (by omega))]; rfl
end Go.Proofs.YtdceflgemhcgcaaGreatDoor

namespace Go.Proofs.YtdceflgemhcgcaaGreatDoor
open Go.RowKit

theorem strK : KeyT Tryz.prog 9 Value.string := .string Tryz.underlying9
end Go.Proofs.YtdceflgemhcgcaaGreatDoor
