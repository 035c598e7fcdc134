/-
  The number of ones in 64 bits, as math/bits reckons it: plain arithmetic, no program.
-/
import Derived.WalkKit
set_option linter.unusedVariables false
set_option linter.unusedSimpArgs false
namespace Go.Proofs.YtmenipaibjifiaaGreatDoor

/-- How many of the lowest k bits are ones. -/
def pop (x : Nat) : Nat → Nat
  | 0 => 0
  | k + 1 => pop x k + (if x.testBit k then 1 else 0)
theorem land_byte (h l M m : Nat) (hl : l < 256) (hm : m < 256) : (256 * h + l) &&& (256 * M + m) = 256 * (h &&& M) + (l &&& m) := by
  have h2 : l &&& m < 256 := Nat.lt_of_le_of_lt Nat.and_le_left hl
  apply Nat.eq_of_testBit_eq
  intro i
  rw [Nat.testBit_and, show (256 : Nat) = 2 ^ 8 from rfl, Nat.testBit_two_pow_mul_add _ (by simpa using hl), Nat.testBit_two_pow_mul_add _ (by simpa using hm), Nat.testBit_two_pow_mul_add _ (by simpa using h2)]
  by_cases hi : i < 8
  · simp [hi]
  · simp [hi]
def a8 (b : Nat) : Nat := (b / 2 &&& 85) + (b &&& 85)
def b8 (b : Nat) : Nat := (b / 4 &&& 51) + (b &&& 51)
def c8 (b : Nat) : Nat := (b / 16 + b) &&& 15
theorem a8_fact : ∀ (b : Fin 256) (t : Fin 2), (128 * t.val + b.val / 2) &&& 85 = b.val / 2 &&& 85 := by decide +kernel
theorem b8_fact : ∀ (b : Fin 256) (t : Fin 4), (64 * t.val + b.val / 4) &&& 51 = b.val / 4 &&& 51 := by decide +kernel
theorem abc_fact : ∀ (b : Fin 256), a8 b.val < 256 ∧ b8 (a8 b.val) < 256 ∧ b8 (a8 b.val) / 16 ≤ 4 ∧ b8 (a8 b.val) % 16 ≤ 4 ∧ c8 (b8 (a8 b.val)) = pop b.val 8 ∧ pop b.val 8 ≤ 8 := by decide +kernel
theorem a_step (h l M : Nat) (hl : l < 256) : ((256 * h + l) / 2 &&& (256 * M + 85)) + ((256 * h + l) &&& (256 * M + 85)) = 256 * ((h / 2 &&& M) + (h &&& M)) + a8 l := by
  have e : (256 * h + l) / 2 = 256 * (h / 2) + (128 * (h % 2) + l / 2) := by omega
  rw [e, land_byte _ _ _ _ (by omega) (by decide), land_byte _ _ _ _ hl (by decide)]
  have := a8_fact ⟨l, hl⟩ ⟨h % 2, by omega⟩
  simp only at this
  rw [this]
  unfold a8
  omega
theorem b_step (h l M : Nat) (hl : l < 256) : ((256 * h + l) / 4 &&& (256 * M + 51)) + ((256 * h + l) &&& (256 * M + 51)) = 256 * ((h / 4 &&& M) + (h &&& M)) + b8 l := by
  have e : (256 * h + l) / 4 = 256 * (h / 4) + (64 * (h % 4) + l / 4) := by omega
  rw [e, land_byte _ _ _ _ (by omega) (by decide), land_byte _ _ _ _ hl (by decide)]
  have := b8_fact ⟨l, hl⟩ ⟨h % 4, by omega⟩
  simp only at this
  rw [this]
  unfold b8
  omega
theorem c_low : ∀ (b : Fin 80) (t : Fin 5), (b.val / 16 + b.val + 16 * t.val) % 256 &&& 15 = c8 b.val := by decide +kernel
/-- A number by its bytes, the lowest first. -/
def val : List Nat → Nat
  | [] => 0
  | b :: r => 256 * val r + b
def rep (n m : Nat) : Nat := val (List.replicate n m)
theorem rep_succ (n m : Nat) : rep (n + 1) m = 256 * rep n m + m := rfl
theorem a_val : ∀ (bs : List Nat), (∀ b ∈ bs, b < 256) → (val bs / 2 &&& rep bs.length 85) + (val bs &&& rep bs.length 85) = val (bs.map a8)
  | [], _ => by simp [val, rep]
  | b :: r, h => by
    have ih := a_val r (fun x hx => h x (List.mem_cons_of_mem _ hx))
    rw [List.length_cons, rep_succ]
    show ((256 * val r + b) / 2 &&& _) + ((256 * val r + b) &&& _) = _
    rw [a_step _ _ _ (h b (by simp)), ih]
    rfl
theorem b_val : ∀ (bs : List Nat), (∀ b ∈ bs, b < 256) → (val bs / 4 &&& rep bs.length 51) + (val bs &&& rep bs.length 51) = val (bs.map b8)
  | [], _ => by simp [val, rep]
  | b :: r, h => by
    have ih := b_val r (fun x hx => h x (List.mem_cons_of_mem _ hx))
    rw [List.length_cons, rep_succ]
    show ((256 * val r + b) / 4 &&& _) + ((256 * val r + b) &&& _) = _
    rw [b_step _ _ _ (h b (by simp)), ih]
    rfl
theorem val_mod16 : ∀ (bs : List Nat), (∀ b ∈ bs, b / 16 ≤ 4 ∧ b % 16 ≤ 4) → val bs % 16 ≤ 4
  | [], _ => by simp [val]
  | b :: r, h => by
    have := (h b (by simp)).2
    show (256 * val r + b) % 16 ≤ 4
    omega
theorem c_val : ∀ (bs : List Nat), (∀ b ∈ bs, b / 16 ≤ 4 ∧ b % 16 ≤ 4) → (val bs / 16 + val bs) &&& rep bs.length 15 = val (bs.map c8)
  | [], _ => by simp [val, rep]
  | b :: r, h => by
    have hr := fun x hx => h x (List.mem_cons_of_mem _ hx)
    have ih := c_val r hr
    have hb := h b (by simp)
    have hm := val_mod16 r hr
    rw [List.length_cons, rep_succ]
    show ((256 * val r + b) / 16 + (256 * val r + b)) &&& _ = _
    have e : (256 * val r + b) / 16 + (256 * val r + b) = 256 * (val r / 16 + val r) + (b / 16 + b + 16 * (val r % 16)) := by omega
    rw [e, land_byte _ _ _ _ (by omega) (by decide), ih]
    have := c_low ⟨b, by omega⟩ ⟨val r % 16, by omega⟩
    simp only at this
    rw [Nat.mod_eq_of_lt (by omega)] at this
    rw [this]
    rfl
/-- The bytes. -/
def bytesOf : Nat → Nat → List Nat
  | 0, _ => []
  | n + 1, x => x % 256 :: bytesOf n (x / 256)
theorem val_bytesOf : ∀ (n x : Nat), x < 256 ^ n → val (bytesOf n x) = x
  | 0, x, h => by simp at h; simp [val, bytesOf, h]
  | n + 1, x, h => by
    have : x / 256 < 256 ^ n := Nat.div_lt_of_lt_mul (by rw [Nat.pow_succ] at h; omega)
    show 256 * val (bytesOf n (x / 256)) + x % 256 = x
    rw [val_bytesOf n _ this]
    omega
theorem bytesOf_lt : ∀ (n x : Nat), ∀ b ∈ bytesOf n x, b < 256
  | 0, x, b, h => by simp [bytesOf] at h
  | n + 1, x, b, h => by
    simp only [bytesOf, List.mem_cons] at h
    rcases h with rfl | h
    · omega
    · exact bytesOf_lt n _ b h
theorem bytesOf_length : ∀ (n x : Nat), (bytesOf n x).length = n
  | 0, _ => rfl
  | n + 1, x => by simp [bytesOf, bytesOf_length n]
theorem pop_byte (x : Nat) : ∀ k, k ≤ 8 → pop x k = pop (x % 256) k
  | 0, _ => rfl
  | k + 1, h => by
    unfold pop
    rw [pop_byte x k (by omega), show (256 : Nat) = 2 ^ 8 from rfl, Nat.testBit_mod_two_pow]
    simp [show k < 8 by omega]
theorem pop_high (x : Nat) : ∀ k, pop x (8 + k) = pop x 8 + pop (x / 256) k
  | 0 => rfl
  | k + 1 => by
    show pop x (8 + k) + _ = pop x 8 + (pop (x / 256) k + _)
    rw [pop_high x k, show (256 : Nat) = 2 ^ 8 from rfl, Nat.testBit_div_two_pow, Nat.add_assoc, Nat.add_comm k 8]
    rfl
theorem pop_bytes : ∀ (n x : Nat), pop x (8 * n) = ((bytesOf n x).map (fun b => pop b 8)).sum
  | 0, _ => rfl
  | n + 1, x => by
    rw [show 8 * (n + 1) = 8 + 8 * n by omega, pop_high, pop_bytes n]
    simp [bytesOf, ← pop_byte x 8 (Nat.le_refl _)]
def oA (x : Nat) : Nat := (x / 2 &&& 6148914691236517205) + (x &&& 6148914691236517205)
def oB (x : Nat) : Nat := (x / 4 &&& 3689348814741910323) + (x &&& 3689348814741910323)
def oC (x : Nat) : Nat := (x / 16 + x) &&& 1085102592571150095
theorem val_lt : ∀ (bs : List Nat), (∀ b ∈ bs, b < 256) → val bs < 256 ^ bs.length
  | [], _ => by simp [val]
  | b :: r, h => by
    have ih := val_lt r (fun x hx => h x (List.mem_cons_of_mem _ hx))
    have hb := h b (by simp)
    show 256 * val r + b < 256 ^ (r.length + 1)
    rw [Nat.pow_succ]
    omega
theorem oABC (x : Nat) (hx : x < 18446744073709551616) : ∃ b0 b1 b2 b3 b4 b5 b6 b7 : Nat, oA x < 18446744073709551616 ∧ oB (oA x) < 18446744073709551616 ∧ oB (oA x) / 16 + oB (oA x) < 18446744073709551616 ∧
    b0 ≤ 8 ∧ b1 ≤ 8 ∧ b2 ≤ 8 ∧ b3 ≤ 8 ∧ b4 ≤ 8 ∧ b5 ≤ 8 ∧ b6 ≤ 8 ∧ b7 ≤ 8 ∧ oC (oB (oA x)) = val [b0, b1, b2, b3, b4, b5, b6, b7] ∧ pop x 64 = b0 + b1 + b2 + b3 + b4 + b5 + b6 + b7 := by
  have hv := val_bytesOf 8 x hx
  have hl := bytesOf_lt 8 x
  have hlen := bytesOf_length 8 x
  have hp := pop_bytes 8 x
  generalize bytesOf 8 x = bs at *
  have hA : oA x = val (bs.map a8) := by
    have := a_val bs hl
    rw [hlen, hv] at this
    exact this
  have hl2 : ∀ b ∈ bs.map a8, b < 256 := by
    intro b hb
    obtain ⟨c, hc, rfl⟩ := List.mem_map.1 hb
    exact (abc_fact ⟨c, hl c hc⟩).1
  have hB : oB (oA x) = val ((bs.map a8).map b8) := by
    have := b_val (bs.map a8) hl2
    rw [List.length_map, hlen, ← hA] at this
    exact this
  have hl3 : ∀ b ∈ (bs.map a8).map b8, b / 16 ≤ 4 ∧ b % 16 ≤ 4 := by
    intro b hb
    obtain ⟨c, hc, rfl⟩ := List.mem_map.1 hb
    obtain ⟨e, he, rfl⟩ := List.mem_map.1 hc
    exact ⟨(abc_fact ⟨e, hl e he⟩).2.2.1, (abc_fact ⟨e, hl e he⟩).2.2.2.1⟩
  have hC : oC (oB (oA x)) = val (((bs.map a8).map b8).map c8) := by
    have := c_val _ hl3
    rw [List.length_map, List.length_map, hlen, ← hB] at this
    exact this
  have hA2 := val_lt _ hl2
  have hB2 := val_lt _ (fun b hb => show b < 256 by have := hl3 b hb; omega)
  simp only [List.length_map, hlen] at hA2 hB2
  rw [← hA] at hA2
  rw [← hB] at hB2
  obtain ⟨c0, c1, c2, c3, c4, c5, c6, c7, rfl⟩ : ∃ c0 c1 c2 c3 c4 c5 c6 c7, bs = [c0, c1, c2, c3, c4, c5, c6, c7] := by
    rcases bs with _ | ⟨c0, _ | ⟨c1, _ | ⟨c2, _ | ⟨c3, _ | ⟨c4, _ | ⟨c5, _ | ⟨c6, _ | ⟨c7, _ | ⟨c8, r⟩⟩⟩⟩⟩⟩⟩⟩⟩ <;> simp at hlen
    exact ⟨_, _, _, _, _, _, _, _, rfl⟩
  have f : ∀ c ∈ [c0, c1, c2, c3, c4, c5, c6, c7], c8 (b8 (a8 c)) = pop c 8 ∧ pop c 8 ≤ 8 := fun c hc => (abc_fact ⟨c, hl c hc⟩).2.2.2.2
  have f0 := f c0 (by simp)
  have f1 := f c1 (by simp)
  have f2 := f c2 (by simp)
  have f3 := f c3 (by simp)
  have f4 := f c4 (by simp)
  have f5 := f c5 (by simp)
  have f6 := f c6 (by simp)
  have f7 := f c7 (by simp)
  simp only [List.map_cons, List.map_nil] at hB hC hl3 hp
  have g7 := hl3 (b8 (a8 c7)) (by simp)
  have g6 := hl3 (b8 (a8 c6)) (by simp)
  have g5 := hl3 (b8 (a8 c5)) (by simp)
  have g4 := hl3 (b8 (a8 c4)) (by simp)
  have g3 := hl3 (b8 (a8 c3)) (by simp)
  have g2 := hl3 (b8 (a8 c2)) (by simp)
  have g1 := hl3 (b8 (a8 c1)) (by simp)
  have g0 := hl3 (b8 (a8 c0)) (by simp)
  rw [f0.1, f1.1, f2.1, f3.1, f4.1, f5.1, f6.1, f7.1] at hC
  refine ⟨pop c0 8, pop c1 8, pop c2 8, pop c3 8, pop c4 8, pop c5 8, pop c6 8, pop c7 8, by simpa using hA2, by simpa using hB2, ?_, f0.2, f1.2, f2.2, f3.2, f4.2, f5.2, f6.2, f7.2, hC, ?_⟩
  · rw [hB]
    generalize b8 (a8 c0) = q0 at *
    generalize b8 (a8 c1) = q1 at *
    generalize b8 (a8 c2) = q2 at *
    generalize b8 (a8 c3) = q3 at *
    generalize b8 (a8 c4) = q4 at *
    generalize b8 (a8 c5) = q5 at *
    generalize b8 (a8 c6) = q6 at *
    generalize b8 (a8 c7) = q7 at *
    simp only [val]
    clear hA hB hC hp hv hx hA2 hB2 f f0 f1 f2 f3 f4 f5 f6 f7 hl hl2 hl3
    omega
  · rw [show (64 : Nat) = 8 * 8 from rfl, hp]
    simp
    omega
theorem div_lo (m lo hi k : Nat) (h : m = lo + k * hi) (hl : lo < k) : m / k = hi := by
  subst h
  rw [Nat.add_mul_div_left _ _ (by omega), Nat.div_eq_of_lt hl, Nat.zero_add]
theorem oSum (b0 b1 b2 b3 b4 b5 b6 b7 : Nat) (h0 : b0 ≤ 8) (h1 : b1 ≤ 8) (h2 : b2 ≤ 8) (h3 : b3 ≤ 8) (h4 : b4 ≤ 8) (h5 : b5 ≤ 8) (h6 : b6 ≤ 8) (h7 : b7 ≤ 8) (y y1 y2 y3 : Nat) (hy : y = val [b0, b1, b2, b3, b4, b5, b6, b7])
    (e1 : y1 = y + y / 256) (e2 : y2 = y1 + y1 / 65536) (e3 : y3 = y2 + y2 / 4294967296) : y < 1152921504606846976 ∧ y1 < 18446744073709551616 ∧ y2 < 18446744073709551616 ∧ y3 < 9223372036854775808 ∧ y3 % 128 = b0 + b1 + b2 + b3 + b4 + b5 + b6 + b7 := by
  simp only [val] at hy
  have q1 := div_lo y b0 (b1 + 256 * (b2 + 256 * (b3 + 256 * (b4 + 256 * (b5 + 256 * (b6 + 256 * b7)))))) 256 (by rw [hy]; omega) (by omega)
  have hy' : y < 1152921504606846976 := by omega
  have a1 : y1 = (b0 + b1) + 256 * (b1 + b2) + 65536 * (b2 + b3) + 16777216 * (b3 + b4) + 4294967296 * (b4 + b5) + 1099511627776 * (b5 + b6) + 281474976710656 * (b6 + b7) + 72057594037927936 * b7 := by rw [e1, q1, hy]; omega
  clear q1 hy e1
  obtain ⟨c0, k0⟩ : ∃ c, c = b0 + b1 := ⟨_, rfl⟩
  obtain ⟨c1, k1⟩ : ∃ c, c = b1 + b2 := ⟨_, rfl⟩
  obtain ⟨c2, k2⟩ : ∃ c, c = b2 + b3 := ⟨_, rfl⟩
  obtain ⟨c3, k3⟩ : ∃ c, c = b3 + b4 := ⟨_, rfl⟩
  obtain ⟨c4, k4⟩ : ∃ c, c = b4 + b5 := ⟨_, rfl⟩
  obtain ⟨c5, k5⟩ : ∃ c, c = b5 + b6 := ⟨_, rfl⟩
  obtain ⟨c6, k6⟩ : ∃ c, c = b6 + b7 := ⟨_, rfl⟩
  have hs : b0 + b1 + b2 + b3 + b4 + b5 + b6 + b7 = c0 + c2 + c4 + c6 := by omega
  rw [hs]
  rw [← k0, ← k1, ← k2, ← k3, ← k4, ← k5, ← k6] at a1
  have l0 : c0 ≤ 16 := by omega
  have l1 : c1 ≤ 16 := by omega
  have l2 : c2 ≤ 16 := by omega
  have l3 : c3 ≤ 16 := by omega
  have l4 : c4 ≤ 16 := by omega
  have l5 : c5 ≤ 16 := by omega
  have l6 : c6 ≤ 16 := by omega
  clear k0 k1 k2 k3 k4 k5 k6 hs
  have hy1 : y1 < 18446744073709551616 := by omega
  have q2 := div_lo y1 (c0 + 256 * c1) (c2 + 256 * c3 + 65536 * c4 + 16777216 * c5 + 4294967296 * c6 + 1099511627776 * b7) 65536 (by rw [a1]; omega) (by omega)
  have a2 : y2 = (c0 + 256 * c1 + 65536 * c2 + 16777216 * c3 + c2 + 256 * c3 + 65536 * c4 + 16777216 * c5) + 4294967296 * (c4 + 256 * c5 + 65536 * c6 + 16777216 * b7 + c6 + 256 * b7) := by rw [e2, q2, a1]; omega
  clear q2 e2 a1
  have hy2 : y2 < 18446744073709551616 := by omega
  have q3 := div_lo y2 _ _ 4294967296 a2 (by omega)
  have a3 : y3 = (c0 + c2 + c4 + c6) + 128 * (2 * c1 + 512 * c2 + 131072 * c3 + 2 * c3 + 512 * c4 + 131072 * c5 + 33554432 * (c4 + 256 * c5 + 65536 * c6 + 16777216 * b7 + c6 + 256 * b7) + 2 * c5 + 512 * c6 + 131072 * b7 + 2 * b7) := by rw [e3, q3, a2]; omega
  clear q3 e3 a2
  refine ⟨hy', hy1, hy2, by omega, ?_⟩
  rw [a3, Nat.add_mul_mod_self_left, Nat.mod_eq_of_lt (by omega)]
end Go.Proofs.YtmenipaibjifiaaGreatDoor
