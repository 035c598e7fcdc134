/-
bitset: inside, Has, Add, Remove.
bitset: Add, Remove.
Bits and words: what words hold which places, in plain Lean, no program.
-/
import Derived.Test.YtmenipaibjifiaaGreatDoorR08
import Derived.BigQuiet
import Derived.BigRegion
import Derived.Laws.BitsAllLaws
import Derived.Test.YtmenipaibjifiaaGreatDoorR02
set_option linter.unusedVariables false
set_option linter.unusedSimpArgs false
namespace Go.Proofs.YtmenipaibjifiaaGreatDoor
open Go.RowKit Go.BigFrame

/-- Is the place in it? -/
def hasW (n : Nat) (ws : List Nat) (i : Int) : Bool := decide (0 ≤ i) && decide (i < n) && (ws.getD (i.toNat / 64) 0).testBit (i.toNat % 64)

set_option maxRecDepth 100000 in
theorem inside_k (R : Ending → World → Prop) (w : World) (s b n : Nat) (ws : List Nat) (i : Int) (hS : SetIn w s b n ws) (hR : R (.returned (.bool (decide (0 ≤ i) && decide (i < n)))) w) : Calls Tryz.prog 142 #[.pointer (some ⟨s, 0, none⟩), .int .i64 i] w R := by
  cases h : decide (0 ≤ i) with
  | false =>
    rw [h] at hR
    go_enter Tryz.func142, Tryz.ntmps142
    go_wp2_with fail
    try exact hR
  | true =>
    rw [h] at hR
    go_enter Tryz.func142, Tryz.ntmps142
    go_wp2_with (go_at_call 86; refine size_k _ _ s b n ws hS ?_)
    try exact hR

theorem SetIn.word {w : World} {s b n : Nat} {ws : List Nat} (h : SetIn w s b n ws) {j : Nat} (hj : j < ws.length) : w.cell? ⟨b, j, none⟩ = some (.int .u64 ((ws[j]'hj : Nat) : Int)) :=
  cell_at h.2.2.1 (by simp [hj])

set_option maxRecDepth 100000 in
theorem has_k (R : Ending → World → Prop) (w : World) (s b n : Nat) (ws : List Nat) (i : Int) (hS : SetIn w s b n ws) (hR : R (.returned (.bool (hasW n ws i))) w) : Calls Tryz.prog 143 #[.pointer (some ⟨s, 0, none⟩), .int .i64 i] w R := by
  have HR := Lib.hid hR
  clear hR
  cases h : (decide (0 ≤ i) && decide (i < n)) with
  | false =>
    have hv := HR.out
    unfold hasW at hv
    rw [h] at hv
    have H := Lib.hid h
    clear h
    go_enter Tryz.func143, Tryz.ntmps143
    go_wp2_with (go_at_call 142; refine inside_k _ _ s b n ws i hS ?_; rw [H.out])
    try exact hv
  | true =>
    obtain ⟨k, rfl⟩ : ∃ k : Nat, i = k := ⟨i.toNat, by simp at h; omega⟩
    have hk : k < n := by simp at h; exact h
    have H := Lib.hid h
    clear h
    obtain ⟨_, hs, hb, hl, hn, hw⟩ := id hS
    have hj : k / 64 < ws.length := by omega
    have c1 : w.cell? ⟨s, 1, none⟩ = some (.slice (some ⟨b, 0, none⟩) ws.length ws.length) := cell_at hs rfl
    have c2 := hS.word hj
    go_enter Tryz.func143, Tryz.ntmps143
    go_wp2_with (go_at_call 142; refine inside_k _ _ s b n ws k hS ?_; rw [H.out])
    have hv := HR.out
    have e : (bits BinOp.and IntKind.u64 ((ws[k / 64]'hj : Nat) / 2 ^ (k % 64)) 1 == 1) = hasW n ws k := by
      have h1 : ((ws[k / 64]'hj : Nat) : Int) / 2 ^ (k % 64) = (((ws[k / 64]'hj) / 2 ^ (k % 64) : Nat) : Int) := by simp
      rw [h1, show (1 : Int) = ((1 : Nat) : Int) from rfl, bits_and_u64_nat _ _ (Nat.lt_of_le_of_lt (Nat.div_le_self _ _) (hw _ (List.getElem_mem hj))) (by decide)]
      unfold hasW
      rw [H.out, Nat.testBit_eq_decide_div_mod_eq, Nat.and_one_is_mod]
      simp only [Int.toNat_natCast, List.getD_eq_getElem?_getD, List.getElem?_eq_getElem hj, Option.getD_some, Bool.true_and]
      rw [Bool.eq_iff_iff]
      simp only [beq_iff_eq, decide_eq_true_eq]
      omega
    rw [← e] at hv
    exact hv
end Go.Proofs.YtmenipaibjifiaaGreatDoor

namespace Go.Proofs.YtmenipaibjifiaaGreatDoor
open Go.RowKit Go.BigFrame

def addW (n : Nat) (ws : List Nat) (i : Int) : List Nat := if decide (0 ≤ i) && decide (i < n) then ws.set (i.toNat / 64) ((ws.getD (i.toNat / 64) 0) ||| 2 ^ (i.toNat % 64)) else ws

theorem setBit_wrap (j : Nat) (h : j < 64) : IntKind.u64.wrap (2 ^ j) = ((2 ^ j : Nat) : Int) := by
  have h1 : (2 : Nat) ^ j < 2 ^ 64 := Nat.pow_lt_pow_right (by decide) h
  have h2 : ((2 : Int) ^ j) = ((2 ^ j : Nat) : Int) := by simp
  rw [h2]
  generalize 2 ^ j = q at *
  simp [IntKind.wrap, IntKind.bits, IntKind.signed]
  omega
theorem SetIn.put {w : World} {s b n : Nat} {ws : List Nat} (h : SetIn w s b n ws) {j y : Nat} (hj : j < ws.length) (hy : y < 18446744073709551616) : SetIn (w.setCell ⟨b, j, none⟩ (.int .u64 (y : Int))) s b n (ws.set j y) ∧ Mod (fun k => k = b) w (w.setCell ⟨b, j, none⟩ (.int .u64 (y : Int))) := by
  obtain ⟨h1, h2, h3, h4, h5, h6⟩ := h
  refine ⟨⟨h1, ?_, ?_, by simpa using h4, h5, ?_⟩, Mod.setCell (S := fun k => k = b) (p := ⟨b, j, none⟩) (Mod.refl _ w) (fun _ => rfl) _⟩
  · rw [List.length_set]; exact (Below.heap_setCell _ _ _ _ h1).trans h2
  · simp only [World.setCell, Array.getElem?_modify]
    simp [h3, List.map_set]
  · intro x hx
    rcases List.mem_or_eq_of_mem_set hx with h | h
    · exact h6 x h
    · rw [h]; exact hy

set_option maxRecDepth 100000 in
theorem add_k (R : Ending → World → Prop) (w : World) (s b n : Nat) (ws : List Nat) (i : Int) (hS : SetIn w s b n ws)
    (hR : ∀ v w', Mod (fun k => k = b) w w' → SetIn w' s b n (addW n ws i) → R (.returned (.bool v)) w') : Calls Tryz.prog 59 #[.pointer (some ⟨s, 0, none⟩), .int .i64 i] w R := by
  have HR := Lib.hid hR
  clear hR
  cases h : (decide (0 ≤ i) && decide (i < n)) with
  | false =>
    have hv := HR.out false w (Mod.refl _ _) (by unfold addW; rw [h]; exact hS)
    have H := Lib.hid h
    clear h
    go_enter Tryz.func59, Tryz.ntmps59
    go_wp2_with (go_at_call 142; refine inside_k _ _ s b n ws i hS ?_; rw [H.out])
    try exact hv
  | true =>
    obtain ⟨k, rfl⟩ : ∃ k : Nat, i = k := ⟨i.toNat, by simp at h; omega⟩
    have hk : k < n := by simp at h; exact h
    have H := Lib.hid h
    clear h
    obtain ⟨hsb, hs, hb, hl, hn, hw⟩ := id hS
    have hj : k / 64 < ws.length := by omega
    have c1 : w.cell? ⟨s, 1, none⟩ = some (.slice (some ⟨b, 0, none⟩) ws.length ws.length) := cell_at hs rfl
    have c2 := hS.word hj
    have c3 : w.frozen? ⟨b, k / 64, none⟩ = false := by simp [World.frozen?, hb]
    cases hh : hasW n ws k with
    | true =>
      have hh2 := hh
      unfold hasW at hh2
      rw [H.out] at hh2
      simp only [Int.toNat_natCast, List.getD_eq_getElem?_getD, List.getElem?_eq_getElem hj, Option.getD_some, Bool.true_and] at hh2
      have hor : (ws[k / 64]'hj) ||| 2 ^ (k % 64) = ws[k / 64]'hj := by
        apply Nat.eq_of_testBit_eq
        intro i
        rw [Nat.testBit_or, Nat.testBit_two_pow]
        by_cases hi : k % 64 = i
        · subst hi; simp [hh2]
        · simp [hi]
      have hv := HR.out false w (Mod.refl _ _) (by
        unfold addW
        rw [H.out]
        simpa [List.getD_eq_getElem?_getD, List.getElem?_eq_getElem hj, hor] using hS)
      have HH := Lib.hid hh
      clear hh hh2
      go_enter Tryz.func59, Tryz.ntmps59
      go_wp2_with (first | (go_at_call 142; refine inside_k _ _ s b n ws k hS ?_; rw [H.out]) | (go_at_call 143; refine has_k _ _ s b n ws k hS ?_; rw [HH.out]))
      try exact hv
    | false =>
      have HH := Lib.hid hh
      clear hh
      go_enter Tryz.func59, Tryz.ntmps59
      go_wp2_with (first | (go_at_call 142; refine inside_k _ _ s b n ws k hS ?_; rw [H.out]) | (go_at_call 143; refine has_k _ _ s b n ws k hS ?_; rw [HH.out]))
      go_region
      go_wp2_with fail
      have hx := hw _ (List.getElem_mem hj)
      have hq : (2 : Nat) ^ (k % 64) < 18446744073709551616 := Nat.pow_lt_pow_right (n := 64) (by decide) (by omega)
      have hy : (ws[k / 64]'hj) ||| 2 ^ (k % 64) < 18446744073709551616 := Nat.or_lt_two_pow (n := 64) hx hq
      have e : bits BinOp.or IntKind.u64 ((ws[k / 64]'hj : Nat) : Int) (IntKind.u64.wrap (2 ^ (k % 64))) = (((ws[k / 64]'hj) ||| 2 ^ (k % 64) : Nat) : Int) := by
        rw [setBit_wrap _ (by omega), bits_or_u64_nat _ _ hx hq]
      obtain ⟨hS2, hM⟩ := hS.put hj hy
      rw [← e] at hS2 hM
      exact HR.out true _ hM.drew (by
        unfold addW
        rw [H.out]
        simpa [List.getD_eq_getElem?_getD, List.getElem?_eq_getElem hj] using (hS2.move (w' := World.drew _) rfl rfl))

def delW (n : Nat) (ws : List Nat) (i : Int) : List Nat := if hasW n ws i then ws.set (i.toNat / 64) ((ws.getD (i.toNat / 64) 0) &&& (18446744073709551615 - 2 ^ (i.toNat % 64))) else ws
set_option maxRecDepth 100000 in
theorem remove_k (R : Ending → World → Prop) (w : World) (s b n : Nat) (ws : List Nat) (i : Int) (hS : SetIn w s b n ws)
    (hR : ∀ v w', Mod (fun k => k = b) w w' → SetIn w' s b n (delW n ws i) → R (.returned (.bool v)) w') : Calls Tryz.prog 61 #[.pointer (some ⟨s, 0, none⟩), .int .i64 i] w R := by
  have HR := Lib.hid hR
  clear hR
  cases hh : hasW n ws i with
  | false =>
    have hv := HR.out false w (Mod.refl _ _) (by unfold delW; rw [hh]; exact hS)
    have HH := Lib.hid hh
    clear hh
    go_enter Tryz.func61, Tryz.ntmps61
    go_wp2_with (go_at_call 143; refine has_k _ _ s b n ws i hS ?_; rw [HH.out])
    try exact hv
  | true =>
    have h : (decide (0 ≤ i) && decide (i < n)) = true := by
      unfold hasW at hh
      simp only [Bool.and_eq_true] at hh ⊢
      exact hh.1
    obtain ⟨k, rfl⟩ : ∃ k : Nat, i = k := ⟨i.toNat, by simp at h; omega⟩
    have hk : k < n := by simp at h; exact h
    have H := Lib.hid h
    clear h
    obtain ⟨hsb, hs, hb, hl, hn, hw⟩ := id hS
    have hj : k / 64 < ws.length := by omega
    have c1 : w.cell? ⟨s, 1, none⟩ = some (.slice (some ⟨b, 0, none⟩) ws.length ws.length) := cell_at hs rfl
    have c2 := hS.word hj
    have c3 : w.frozen? ⟨b, k / 64, none⟩ = false := by simp [World.frozen?, hb]
    have HH := Lib.hid hh
    clear hh
    go_enter Tryz.func61, Tryz.ntmps61
    go_wp2_with (go_at_call 143; refine has_k _ _ s b n ws k hS ?_; rw [HH.out])
    go_region
    go_wp2_with fail
    have hx := hw _ (List.getElem_mem hj)
    have hq : (2 : Nat) ^ (k % 64) < 18446744073709551616 := Nat.pow_lt_pow_right (n := 64) (by decide) (by omega)
    have hy : (ws[k / 64]'hj) &&& (18446744073709551615 - 2 ^ (k % 64)) < 18446744073709551616 := Nat.lt_of_le_of_lt Nat.and_le_left hx
    have e : bits BinOp.andNot IntKind.u64 ((ws[k / 64]'hj : Nat) : Int) (IntKind.u64.wrap (2 ^ (k % 64))) = (((ws[k / 64]'hj) &&& (18446744073709551615 - 2 ^ (k % 64)) : Nat) : Int) := by
      rw [setBit_wrap _ (by omega), u64_andNot_nat _ _ hx hq]
    obtain ⟨hS2, hM⟩ := hS.put hj hy
    rw [← e] at hS2 hM
    exact HR.out true _ hM.drew (by
      unfold delW
      rw [HH.out]
      simpa [List.getD_eq_getElem?_getD, List.getElem?_eq_getElem hj] using (hS2.move (w' := World.drew _) rfl rfl))
end Go.Proofs.YtmenipaibjifiaaGreatDoor

namespace Go.Proofs.YtmenipaibjifiaaGreatDoor
open Go.RowKit

def memW (ws : List Nat) (i : Nat) : Bool := (ws.getD (i / 64) 0).testBit (i % 64)
/-- The places below n. -/
def mems (n : Nat) (ws : List Nat) : List Nat := (List.range n).filter (memW ws)
def popSum (ws : List Nat) (k : Nat) : Nat := ((ws.take k).map (fun x => pop x 64)).sum
theorem hasW_mem (n : Nat) (ws : List Nat) (i : Nat) : hasW n ws i = (decide (i < n) && memW ws i) := by
  simp [hasW, memW]
theorem hasW_int (n : Nat) (ws : List Nat) (i : Int) : hasW n ws i = (decide (0 ≤ i) && decide (i < n) && memW ws i.toNat) := rfl
theorem pop_count (x : Nat) : ∀ k, ((List.range k).filter (fun t => x.testBit t)).length = pop x k
  | 0 => rfl
  | k + 1 => by
    rw [List.range_succ, List.filter_append, List.length_append, pop_count x k]
    show _ = pop x k + _
    cases h : x.testBit k <;> simp [h]
theorem popSum_succ (ws : List Nat) (k : Nat) (h : k < ws.length) : popSum ws (k + 1) = popSum ws k + pop (ws[k]'h) 64 := by
  unfold popSum
  rw [List.take_add_one, List.getElem?_eq_getElem h, List.map_append, List.sum_append]
  simp only [Option.toList_some, List.map_cons, List.map_nil, List.sum_cons, List.sum_nil, Nat.add_zero]
theorem mems_words (ws : List Nat) : ∀ k, k ≤ ws.length → (mems (64 * k) ws).length = popSum ws k
  | 0, _ => rfl
  | k + 1, h => by
    have ih := mems_words ws k (by omega)
    unfold mems at ih ⊢
    rw [show 64 * (k + 1) = 64 * k + 64 by omega, List.range_add, List.filter_append, List.length_append, ih, popSum_succ ws k (by omega), List.filter_map, List.length_map, ← pop_count]
    congr 2
    apply List.filter_congr
    intro t ht
    have ht' : t < 64 := List.mem_range.1 ht
    simp only [Function.comp, memW]
    rw [show (64 * k + t) / 64 = k by omega, show (64 * k + t) % 64 = t by omega, List.getD_eq_getElem?_getD, List.getElem?_eq_getElem (by omega), Option.getD_some]
theorem mems_length_le (n : Nat) (ws : List Nat) : (mems n ws).length ≤ n := by
  unfold mems
  have := List.length_filter_le (memW ws) (List.range n)
  simpa using this
theorem memW_set (ws : List Nat) (q j x : Nat) (hq : q / 64 < ws.length) : memW (ws.set (q / 64) x) j = if j / 64 = q / 64 then x.testBit (j % 64) else memW ws j := by
  unfold memW
  simp only [List.getD_eq_getElem?_getD, List.getElem?_set]
  by_cases h : j / 64 = q / 64
  · rw [if_pos h.symm, if_pos h, if_pos hq]; rfl
  · rw [if_neg (fun e => h e.symm), if_neg h]
theorem addW_length (n : Nat) (ws : List Nat) (i : Int) : (addW n ws i).length = ws.length := by
  unfold addW; split <;> simp
theorem delW_length (n : Nat) (ws : List Nat) (i : Int) : (delW n ws i).length = ws.length := by
  unfold delW; split <;> simp
theorem memW_add {n : Nat} {ws : List Nat} (hl : ws.length = (n + 63) / 64) (i j : Nat) (hi : i < n) : memW (addW n ws i) j = (memW ws j || decide (j = i)) := by
  unfold addW
  rw [if_pos (by simp [hi])]
  simp only [Int.toNat_natCast]
  rw [memW_set ws i j _ (by omega)]
  by_cases h : j / 64 = i / 64
  · rw [if_pos h, Nat.testBit_or, Nat.testBit_two_pow]
    unfold memW
    rw [h]
    congr 1
    rw [decide_eq_decide]
    omega
  · rw [if_neg h]
    have : j ≠ i := fun e => h (by rw [e])
    simp [this]
theorem memW_add_out {n : Nat} {ws : List Nat} (i : Int) (hi : ¬ (0 ≤ i ∧ i < n)) : addW n ws i = ws := by
  unfold addW
  rw [if_neg]
  simpa using hi
theorem memW_del {n : Nat} {ws : List Nat} (hl : ws.length = (n + 63) / 64) (i j : Nat) (hi : i < n) : memW (delW n ws i) j = (memW ws j && !decide (j = i)) := by
  unfold delW
  rw [hasW_mem]
  simp only [hi, decide_true, Bool.true_and, Int.toNat_natCast]
  cases h : memW ws i with
  | false =>
    simp only [Bool.false_eq_true, if_false]
    by_cases hj : j = i
    · subst hj; simp [h]
    · simp [hj]
  | true =>
    rw [if_pos rfl, memW_set ws i j _ (by omega)]
    by_cases hw : j / 64 = i / 64
    · rw [if_pos hw, Nat.testBit_and, show (18446744073709551615 - 2 ^ (i % 64)) = 2 ^ 64 - (2 ^ (i % 64) + 1) by omega, Nat.testBit_two_pow_sub_succ (Nat.pow_lt_pow_right (by decide) (by omega)), Nat.testBit_two_pow]
      unfold memW
      rw [hw]
      congr 1
      have hj : j % 64 < 64 := by omega
      simp only [hj, decide_true, Bool.true_and]
      congr 1
      rw [decide_eq_decide]
      omega
    · rw [if_neg hw]
      have : j ≠ i := fun e => hw (by rw [e])
      simp [this]
theorem memW_zero (k i : Nat) : memW (List.replicate k 0) i = false := by
  unfold memW
  rw [List.getD_eq_getElem?_getD, List.getElem?_replicate]
  split <;> simp
theorem memW_nil (i : Nat) : memW [] i = false := by simp [memW]
/-- Word by word. -/
def zipW (f : Nat → Nat → Nat) (k : Nat) (x y : List Nat) : List Nat := (List.range k).map fun j => f (x.getD j 0) (y.getD j 0)
theorem zipW_length (f : Nat → Nat → Nat) (k : Nat) (x y : List Nat) : (zipW f k x y).length = k := by simp [zipW]
theorem zipW_get (f : Nat → Nat → Nat) (k : Nat) (x y : List Nat) (j : Nat) (h : j < k) : (zipW f k x y).getD j 0 = f (x.getD j 0) (y.getD j 0) := by
  unfold zipW
  rw [List.getD_eq_getElem?_getD, List.getElem?_map, List.getElem?_range h]
  rfl
theorem memW_or (k : Nat) (x y : List Nat) (i : Nat) (h : i < 64 * k) : memW (zipW (· ||| ·) k x y) i = (memW x i || memW y i) := by
  unfold memW
  rw [zipW_get _ _ _ _ _ (by omega), Nat.testBit_or]
theorem memW_and (k : Nat) (x y : List Nat) (i : Nat) (h : i < 64 * k) : memW (zipW (· &&& ·) k x y) i = (memW x i && memW y i) := by
  unfold memW
  rw [zipW_get _ _ _ _ _ (by omega), Nat.testBit_and]
end Go.Proofs.YtmenipaibjifiaaGreatDoor
