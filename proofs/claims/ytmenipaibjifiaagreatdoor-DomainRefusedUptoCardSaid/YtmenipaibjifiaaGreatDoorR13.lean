/-
bitset: joined, Or, And, OrWith.
bitset: spanOf, Equal of two sets with the same places.
-/
import Derived.Test.YtmenipaibjifiaaGreatDoorR11
import Derived.Deep.RegionWith
import Derived.Test.YtmenipaibjifiaaGreatDoorR06
set_option linter.unusedVariables false
set_option linter.unusedSimpArgs false
namespace Go.Proofs.YtmenipaibjifiaaGreatDoor
open Go.RowKit Go.BigFrame

theorem or1_k (R : Ending → World → Prop) (w : World) (x y : Nat) (hx : x < 18446744073709551616) (hy : y < 18446744073709551616) (hR : R (.returned (.int .u64 ((x ||| y : Nat) : Int))) w) : Calls Tryz.prog 159 #[.int .u64 x, .int .u64 y] w R := by
  rw [← bits_or_u64_nat _ _ hx hy] at hR
  go_enter Tryz.func159, Tryz.ntmps159
  go_wp2_with fail
  exact hR
theorem and1_k (R : Ending → World → Prop) (w : World) (x y : Nat) (hx : x < 18446744073709551616) (hy : y < 18446744073709551616) (hR : R (.returned (.int .u64 ((x &&& y : Nat) : Int))) w) : Calls Tryz.prog 221 #[.int .u64 x, .int .u64 y] w R := by
  rw [← bits_and_u64_nat _ _ hx hy] at hR
  go_enter Tryz.func221, Tryz.ntmps221
  go_wp2_with fail
  exact hR
def zipTo (f : Nat → Nat → Nat) (k t : Nat) (x y : List Nat) : List Nat := (List.range t).map fun j => if j < k then f (x.getD j 0) (y.getD j 0) else 0
theorem zipTo_zero (f : Nat → Nat → Nat) (t : Nat) (x y : List Nat) : zipTo f 0 t x y = List.replicate t 0 := by
  unfold zipTo
  apply List.ext_getElem
  · simp
  · intro i h1 h2; simp
theorem zipTo_all (f : Nat → Nat → Nat) (t : Nat) (x y : List Nat) : zipTo f t t x y = zipW f t x y := by
  unfold zipTo zipW
  apply List.map_congr_left
  intro j hj
  rw [if_pos (List.mem_range.1 hj)]
theorem zipTo_set (f : Nat → Nat → Nat) (k t : Nat) (x y : List Nat) : (zipTo f k t x y).set k (f (x.getD k 0) (y.getD k 0)) = zipTo f (k + 1) t x y := by
  unfold zipTo
  apply List.ext_getElem
  · simp
  · intro i h1 h2
    simp only [List.getElem_set, List.getElem_map, List.getElem_range]
    by_cases e : k = i
    · subst e; simp
    · rw [if_neg e]
      by_cases h : i < k
      · rw [if_pos h, if_pos (by omega)]
      · rw [if_neg h, if_neg (by omega)]
theorem zipTo_length (f : Nat → Nat → Nat) (k t : Nat) (x y : List Nat) : (zipTo f k t x y).length = t := by simp [zipTo]
theorem SetP.words {w : World} {ok : Nat → Prop} {v : Value} {n : Nat} {ws : List Nat} (h : SetP w ok v n ws) (k : Nat) : ws.getD k 0 < 18446744073709551616 := by
  rcases h with ⟨_, _, rfl⟩ | ⟨_, _, _, h, _⟩
  · simp
  · rw [List.getD_eq_getElem?_getD]
    cases e : ws[k]? with
    | none => simp
    | some x => exact h.2.2.2.2.2 x (List.mem_of_getElem? e)

set_option maxRecDepth 100000 in
set_option maxHeartbeats 4000000 in
theorem joinedOr_k (R : Ending → World → Prop) (w : World) (ok : Nat → Prop) (va vb : Value) (n m mx : Nat) (x y : List Nat) (hok : ∀ k, ok k → k < w.heap.size) (ha : SetP w ok va n x) (hb : SetP w ok vb m y) (hmx : mx = max n m)
    (hR : ∀ s b w', Below w.heap.size w w' → w.heap.size ≤ s → w.heap.size ≤ b → SetIn w' s b (max n m) (zipW ((· ||| ·)) ((max n m + 63) / 64) x y) → R (.returned (.pointer (some ⟨s, 0, none⟩))) w') :
    Calls Tryz.prog 158 #[va, vb, .func (.func 159) #[] #[]] w R := by
  have HR := Lib.hid hR
  clear hR
  have hn := ha.le
  have hm := hb.le
  have hmb : mx ≤ 65536 := by omega
  have hmx0 := Lib.hid hmx
  clear hmx
  go_enter Tryz.func158, Tryz.ntmps158
  go_wp2_with fail
  refine size_p _ _ ok va n x ha ?_
  go_wp2_with fail
  refine size_p _ _ ok vb m y hb ?_
  go_wp2_with fail
  · have e0 : mx = m := by have := hmx0.out; omega
    refine blank_k _ _ m (by omega) ?_
    rw [← e0]
    intro s b w1 hB1 hs1 hb1 hS1
    have hm0 := Lib.hid e0
    clear e0
    have c1 : w1.cell? ⟨s, 1, none⟩ = some (.slice (some ⟨b, 0, none⟩) (List.replicate ((mx + 63) / 64) 0).length (List.replicate ((mx + 63) / 64) 0).length) := cell_at hS1.2.1 rfl
    simp only [List.length_replicate] at c1
    obtain ⟨t, ht⟩ : ∃ t, (mx + 63) / 64 = t := ⟨_, rfl⟩
    rw [ht] at c1 hS1
    have htb : t ≤ 1024 := by omega
    have ht0 := Lib.hid ht
    clear ht

    go_wp2_with fail
    go_loopw [8, 20] (fun _ i wr => ∃ k : Nat, k ≤ t ∧ i = .int .i64 k ∧ Below w.heap.size w wr ∧ SetIn wr s b mx (zipTo ((· ||| ·)) k t x y)) (fun _ i _ => t - (intOf i).toNat)
    case atStart => exact ⟨0, Nat.zero_le _, rfl, hB1, by rw [zipTo_zero]; exact hS1⟩
    case round =>
      obtain ⟨k, hk, rfl, hB, hS⟩ := hrel
      have har : SetP wr ok va n x := ha.move (fun k hk _ => hB.block k (hok k hk)) (fun _ h _ => h)
      have hbr : SetP wr ok vb m y := hb.move (fun k hk _ => hB.block k (hok k hk)) (fun _ h _ => h)
      have d1 : wr.cell? ⟨s, 1, none⟩ = some (.slice (some ⟨b, 0, none⟩) (zipTo ((· ||| ·)) k t x y).length (zipTo ((· ||| ·)) k t x y).length) := cell_at hS.2.1 rfl
      rw [zipTo_length] at d1
      by_cases hkl : k < t
      · have hj : k < (zipTo ((· ||| ·)) k t x y).length := by rw [zipTo_length]; exact hkl
        have hlt : x.getD k 0 ||| y.getD k 0 < 18446744073709551616 := Nat.or_lt_two_pow (n := 64) (ha.words k) (hb.words k)
        obtain ⟨hS2, hM2⟩ := hS.put hj hlt
        have HM2 := Lib.hid hM2
        have HS2 := Lib.hid hS2
        have d2 : wr.frozen? ⟨b, k, none⟩ = false := by simp [World.frozen?, hS.2.2.1]
        have d3 := hS.word hj
        have hax := Lib.hid (ha.words k)
        have hbx := Lib.hid (hb.words k)
        clear hM2 hS2 hlt
        have HB := Lib.hid hB
        clear hB
        go_wp2_with fail
        go_region_with (first
          | (go_at_call_of 79 va; refine word_p _ _ ok va n x k ?_ ?_; exact har.move (fun _ _ _ => rfl) (fun _ h _ => h))
          | (go_at_call_of 79 vb; refine word_p _ _ ok vb m y k ?_ ?_; exact hbr.move (fun _ _ _ => rfl) (fun _ h _ => h))
          | (go_at_call 159; refine or1_k _ _ _ _ hax.out hbx.out ?_))
        all_goals go_wp2
        all_goals
          go_roundw
          case rel => exact ⟨k + 1, by omega, by go_num, by
              have hM2 := HM2.out
              simp only [List.getD_eq_getElem?_getD] at hM2
              exact HB.out.trans (hM2.drew.below HB.out.size (fun j e => by rw [e]; exact hb1)), by
              have hS2 := HS2.out
              rw [zipTo_set] at hS2
              simp only [List.getD_eq_getElem?_getD] at hS2
              exact hS2.move rfl rfl⟩
          case measure => simp [intOf]; omega
      · obtain rfl : k = t := by omega
        rw [zipTo_all] at hS
        have hv := HR.out _ _ _ hB hs1 hb1 (by rw [← hmx0.out, ht0.out]; exact hS)
        go_wp2_with fail
        exact hv
  · have e0 : mx = n := by have := hmx0.out; omega
    refine blank_k _ _ n (by omega) ?_
    rw [← e0]
    intro s b w1 hB1 hs1 hb1 hS1
    have hm0 := Lib.hid e0
    clear e0
    have c1 : w1.cell? ⟨s, 1, none⟩ = some (.slice (some ⟨b, 0, none⟩) (List.replicate ((mx + 63) / 64) 0).length (List.replicate ((mx + 63) / 64) 0).length) := cell_at hS1.2.1 rfl
    simp only [List.length_replicate] at c1
    obtain ⟨t, ht⟩ : ∃ t, (mx + 63) / 64 = t := ⟨_, rfl⟩
    rw [ht] at c1 hS1
    have htb : t ≤ 1024 := by omega
    have ht0 := Lib.hid ht
    clear ht

    go_wp2_with fail
    go_loopw [8, 20] (fun _ i wr => ∃ k : Nat, k ≤ t ∧ i = .int .i64 k ∧ Below w.heap.size w wr ∧ SetIn wr s b mx (zipTo ((· ||| ·)) k t x y)) (fun _ i _ => t - (intOf i).toNat)
    case atStart => exact ⟨0, Nat.zero_le _, rfl, hB1, by rw [zipTo_zero]; exact hS1⟩
    case round =>
      obtain ⟨k, hk, rfl, hB, hS⟩ := hrel
      have har : SetP wr ok va n x := ha.move (fun k hk _ => hB.block k (hok k hk)) (fun _ h _ => h)
      have hbr : SetP wr ok vb m y := hb.move (fun k hk _ => hB.block k (hok k hk)) (fun _ h _ => h)
      have d1 : wr.cell? ⟨s, 1, none⟩ = some (.slice (some ⟨b, 0, none⟩) (zipTo ((· ||| ·)) k t x y).length (zipTo ((· ||| ·)) k t x y).length) := cell_at hS.2.1 rfl
      rw [zipTo_length] at d1
      by_cases hkl : k < t
      · have hj : k < (zipTo ((· ||| ·)) k t x y).length := by rw [zipTo_length]; exact hkl
        have hlt : x.getD k 0 ||| y.getD k 0 < 18446744073709551616 := Nat.or_lt_two_pow (n := 64) (ha.words k) (hb.words k)
        obtain ⟨hS2, hM2⟩ := hS.put hj hlt
        have HM2 := Lib.hid hM2
        have HS2 := Lib.hid hS2
        have d2 : wr.frozen? ⟨b, k, none⟩ = false := by simp [World.frozen?, hS.2.2.1]
        have d3 := hS.word hj
        have hax := Lib.hid (ha.words k)
        have hbx := Lib.hid (hb.words k)
        clear hM2 hS2 hlt
        have HB := Lib.hid hB
        clear hB
        go_wp2_with fail
        go_region_with (first
          | (go_at_call_of 79 va; refine word_p _ _ ok va n x k ?_ ?_; exact har.move (fun _ _ _ => rfl) (fun _ h _ => h))
          | (go_at_call_of 79 vb; refine word_p _ _ ok vb m y k ?_ ?_; exact hbr.move (fun _ _ _ => rfl) (fun _ h _ => h))
          | (go_at_call 159; refine or1_k _ _ _ _ hax.out hbx.out ?_))
        all_goals go_wp2
        all_goals
          go_roundw
          case rel => exact ⟨k + 1, by omega, by go_num, by
              have hM2 := HM2.out
              simp only [List.getD_eq_getElem?_getD] at hM2
              exact HB.out.trans (hM2.drew.below HB.out.size (fun j e => by rw [e]; exact hb1)), by
              have hS2 := HS2.out
              rw [zipTo_set] at hS2
              simp only [List.getD_eq_getElem?_getD] at hS2
              exact hS2.move rfl rfl⟩
          case measure => simp [intOf]; omega
      · obtain rfl : k = t := by omega
        rw [zipTo_all] at hS
        have hv := HR.out _ _ _ hB hs1 hb1 (by rw [← hmx0.out, ht0.out]; exact hS)
        go_wp2_with fail
        exact hv
set_option maxRecDepth 100000 in
set_option maxHeartbeats 4000000 in
theorem joinedAnd_k (R : Ending → World → Prop) (w : World) (ok : Nat → Prop) (va vb : Value) (n m mx : Nat) (x y : List Nat) (hok : ∀ k, ok k → k < w.heap.size) (ha : SetP w ok va n x) (hb : SetP w ok vb m y) (hmx : mx = max n m)
    (hR : ∀ s b w', Below w.heap.size w w' → w.heap.size ≤ s → w.heap.size ≤ b → SetIn w' s b (max n m) (zipW ((· &&& ·)) ((max n m + 63) / 64) x y) → R (.returned (.pointer (some ⟨s, 0, none⟩))) w') :
    Calls Tryz.prog 158 #[va, vb, .func (.func 221) #[] #[]] w R := by
  have HR := Lib.hid hR
  clear hR
  have hn := ha.le
  have hm := hb.le
  have hmb : mx ≤ 65536 := by omega
  have hmx0 := Lib.hid hmx
  clear hmx
  go_enter Tryz.func158, Tryz.ntmps158
  go_wp2_with fail
  refine size_p _ _ ok va n x ha ?_
  go_wp2_with fail
  refine size_p _ _ ok vb m y hb ?_
  go_wp2_with fail
  · have e0 : mx = m := by have := hmx0.out; omega
    refine blank_k _ _ m (by omega) ?_
    rw [← e0]
    intro s b w1 hB1 hs1 hb1 hS1
    have hm0 := Lib.hid e0
    clear e0
    have c1 : w1.cell? ⟨s, 1, none⟩ = some (.slice (some ⟨b, 0, none⟩) (List.replicate ((mx + 63) / 64) 0).length (List.replicate ((mx + 63) / 64) 0).length) := cell_at hS1.2.1 rfl
    simp only [List.length_replicate] at c1
    obtain ⟨t, ht⟩ : ∃ t, (mx + 63) / 64 = t := ⟨_, rfl⟩
    rw [ht] at c1 hS1
    have htb : t ≤ 1024 := by omega
    have ht0 := Lib.hid ht
    clear ht

    go_wp2_with fail
    go_loopw [8, 20] (fun _ i wr => ∃ k : Nat, k ≤ t ∧ i = .int .i64 k ∧ Below w.heap.size w wr ∧ SetIn wr s b mx (zipTo ((· &&& ·)) k t x y)) (fun _ i _ => t - (intOf i).toNat)
    case atStart => exact ⟨0, Nat.zero_le _, rfl, hB1, by rw [zipTo_zero]; exact hS1⟩
    case round =>
      obtain ⟨k, hk, rfl, hB, hS⟩ := hrel
      have har : SetP wr ok va n x := ha.move (fun k hk _ => hB.block k (hok k hk)) (fun _ h _ => h)
      have hbr : SetP wr ok vb m y := hb.move (fun k hk _ => hB.block k (hok k hk)) (fun _ h _ => h)
      have d1 : wr.cell? ⟨s, 1, none⟩ = some (.slice (some ⟨b, 0, none⟩) (zipTo ((· &&& ·)) k t x y).length (zipTo ((· &&& ·)) k t x y).length) := cell_at hS.2.1 rfl
      rw [zipTo_length] at d1
      by_cases hkl : k < t
      · have hj : k < (zipTo ((· &&& ·)) k t x y).length := by rw [zipTo_length]; exact hkl
        have hlt : x.getD k 0 &&& y.getD k 0 < 18446744073709551616 := Nat.lt_of_le_of_lt Nat.and_le_left (ha.words k)
        obtain ⟨hS2, hM2⟩ := hS.put hj hlt
        have HM2 := Lib.hid hM2
        have HS2 := Lib.hid hS2
        have d2 : wr.frozen? ⟨b, k, none⟩ = false := by simp [World.frozen?, hS.2.2.1]
        have d3 := hS.word hj
        have hax := Lib.hid (ha.words k)
        have hbx := Lib.hid (hb.words k)
        clear hM2 hS2 hlt
        have HB := Lib.hid hB
        clear hB
        go_wp2_with fail
        go_region_with (first
          | (go_at_call_of 79 va; refine word_p _ _ ok va n x k ?_ ?_; exact har.move (fun _ _ _ => rfl) (fun _ h _ => h))
          | (go_at_call_of 79 vb; refine word_p _ _ ok vb m y k ?_ ?_; exact hbr.move (fun _ _ _ => rfl) (fun _ h _ => h))
          | (go_at_call 221; refine and1_k _ _ _ _ hax.out hbx.out ?_))
        all_goals go_wp2
        all_goals
          go_roundw
          case rel => exact ⟨k + 1, by omega, by go_num, by
              have hM2 := HM2.out
              simp only [List.getD_eq_getElem?_getD] at hM2
              exact HB.out.trans (hM2.drew.below HB.out.size (fun j e => by rw [e]; exact hb1)), by
              have hS2 := HS2.out
              rw [zipTo_set] at hS2
              simp only [List.getD_eq_getElem?_getD] at hS2
              exact hS2.move rfl rfl⟩
          case measure => simp [intOf]; omega
      · obtain rfl : k = t := by omega
        rw [zipTo_all] at hS
        have hv := HR.out _ _ _ hB hs1 hb1 (by rw [← hmx0.out, ht0.out]; exact hS)
        go_wp2_with fail
        exact hv
  · have e0 : mx = n := by have := hmx0.out; omega
    refine blank_k _ _ n (by omega) ?_
    rw [← e0]
    intro s b w1 hB1 hs1 hb1 hS1
    have hm0 := Lib.hid e0
    clear e0
    have c1 : w1.cell? ⟨s, 1, none⟩ = some (.slice (some ⟨b, 0, none⟩) (List.replicate ((mx + 63) / 64) 0).length (List.replicate ((mx + 63) / 64) 0).length) := cell_at hS1.2.1 rfl
    simp only [List.length_replicate] at c1
    obtain ⟨t, ht⟩ : ∃ t, (mx + 63) / 64 = t := ⟨_, rfl⟩
    rw [ht] at c1 hS1
    have htb : t ≤ 1024 := by omega
    have ht0 := Lib.hid ht
    clear ht

    go_wp2_with fail
    go_loopw [8, 20] (fun _ i wr => ∃ k : Nat, k ≤ t ∧ i = .int .i64 k ∧ Below w.heap.size w wr ∧ SetIn wr s b mx (zipTo ((· &&& ·)) k t x y)) (fun _ i _ => t - (intOf i).toNat)
    case atStart => exact ⟨0, Nat.zero_le _, rfl, hB1, by rw [zipTo_zero]; exact hS1⟩
    case round =>
      obtain ⟨k, hk, rfl, hB, hS⟩ := hrel
      have har : SetP wr ok va n x := ha.move (fun k hk _ => hB.block k (hok k hk)) (fun _ h _ => h)
      have hbr : SetP wr ok vb m y := hb.move (fun k hk _ => hB.block k (hok k hk)) (fun _ h _ => h)
      have d1 : wr.cell? ⟨s, 1, none⟩ = some (.slice (some ⟨b, 0, none⟩) (zipTo ((· &&& ·)) k t x y).length (zipTo ((· &&& ·)) k t x y).length) := cell_at hS.2.1 rfl
      rw [zipTo_length] at d1
      by_cases hkl : k < t
      · have hj : k < (zipTo ((· &&& ·)) k t x y).length := by rw [zipTo_length]; exact hkl
        have hlt : x.getD k 0 &&& y.getD k 0 < 18446744073709551616 := Nat.lt_of_le_of_lt Nat.and_le_left (ha.words k)
        obtain ⟨hS2, hM2⟩ := hS.put hj hlt
        have HM2 := Lib.hid hM2
        have HS2 := Lib.hid hS2
        have d2 : wr.frozen? ⟨b, k, none⟩ = false := by simp [World.frozen?, hS.2.2.1]
        have d3 := hS.word hj
        have hax := Lib.hid (ha.words k)
        have hbx := Lib.hid (hb.words k)
        clear hM2 hS2 hlt
        have HB := Lib.hid hB
        clear hB
        go_wp2_with fail
        go_region_with (first
          | (go_at_call_of 79 va; refine word_p _ _ ok va n x k ?_ ?_; exact har.move (fun _ _ _ => rfl) (fun _ h _ => h))
          | (go_at_call_of 79 vb; refine word_p _ _ ok vb m y k ?_ ?_; exact hbr.move (fun _ _ _ => rfl) (fun _ h _ => h))
          | (go_at_call 221; refine and1_k _ _ _ _ hax.out hbx.out ?_))
        all_goals go_wp2
        all_goals
          go_roundw
          case rel => exact ⟨k + 1, by omega, by go_num, by
              have hM2 := HM2.out
              simp only [List.getD_eq_getElem?_getD] at hM2
              exact HB.out.trans (hM2.drew.below HB.out.size (fun j e => by rw [e]; exact hb1)), by
              have hS2 := HS2.out
              rw [zipTo_set] at hS2
              simp only [List.getD_eq_getElem?_getD] at hS2
              exact hS2.move rfl rfl⟩
          case measure => simp [intOf]; omega
      · obtain rfl : k = t := by omega
        rw [zipTo_all] at hS
        have hv := HR.out _ _ _ hB hs1 hb1 (by rw [← hmx0.out, ht0.out]; exact hS)
        go_wp2_with fail
        exact hv
end Go.Proofs.YtmenipaibjifiaaGreatDoor

namespace Go.Proofs.YtmenipaibjifiaaGreatDoor
open Go.RowKit Go.BigFrame

/-- The same places: the same words. -/
theorem words_eq {m : Nat} {x y : List Nat} (hx : x.length = m) (hy : y.length = m) (bx : ∀ a ∈ x, a < 18446744073709551616) (by_ : ∀ a ∈ y, a < 18446744073709551616) (h : ∀ i, i < 64 * m → memW x i = memW y i) : x = y := by
  refine List.ext_getElem (by omega) (fun j h1 h2 => ?_)
  refine Nat.eq_of_testBit_eq (fun b => ?_)
  by_cases hb : b < 64
  · have := h (64 * j + b) (by omega)
    unfold memW at this
    rw [show (64 * j + b) / 64 = j by omega, show (64 * j + b) % 64 = b by omega] at this
    simpa [List.getD_eq_getElem?_getD, List.getElem?_eq_getElem h1, List.getElem?_eq_getElem h2] using this
  · have e : (18446744073709551616 : Nat) = 2 ^ 64 := by decide
    have l1 := bx _ (List.getElem_mem h1)
    have l2 := by_ _ (List.getElem_mem h2)
    rw [e] at l1 l2
    rw [Nat.testBit_lt_two_pow (Nat.lt_of_lt_of_le l1 (Nat.pow_le_pow_right (by decide) (by omega))), Nat.testBit_lt_two_pow (Nat.lt_of_lt_of_le l2 (Nat.pow_le_pow_right (by decide) (by omega)))]
set_option maxRecDepth 100000 in
set_option maxHeartbeats 4000000 in
theorem spanOf_k (R : Ending → World → Prop) (w : World) (s1 b1 s2 b2 n : Nat) (x y : List Nat) (m : Nat) (hm : m = (n + 63) / 64) (h1 : SetIn w s1 b1 n x) (h2 : SetIn w s2 b2 n y) (hR : R (.returned (.int .i64 m)) w) :
    Calls Tryz.prog 78 #[.pointer (some ⟨s1, 0, none⟩), .pointer (some ⟨s2, 0, none⟩)] w R := by
  rw [hm] at hR
  clear hm
  have H1 := Lib.hid h1
  have H2 := Lib.hid h2
  have hn : n ≤ 65536 := h1.2.2.2.2.1
  have hmx : max (n : Int) (n : Int) = (n : Int) := by omega
  clear h1 h2
  go_enter Tryz.func78, Tryz.ntmps78
  go_wp2_with fail
  refine size_k _ _ s1 b1 n x H1.out ?_
  go_wp2_with fail
  refine size_k _ _ s2 b2 n y H2.out ?_
  go_wp2_with fail
  refine wordCount_k _ _ n hn ?_
  go_wp2_with fail
  exact hR
set_option maxRecDepth 100000 in
set_option maxHeartbeats 4000000 in
theorem bequal_k (R : Ending → World → Prop) (w : World) (s1 b1 s2 b2 n : Nat) (x : List Nat) (h1 : SetIn w s1 b1 n x) (h2 : SetIn w s2 b2 n x) (hR : R (.returned (.bool true)) w) :
    Calls Tryz.prog 21 #[.pointer (some ⟨s1, 0, none⟩), .pointer (some ⟨s2, 0, none⟩)] w R := by
  have H1 := Lib.hid (show SetP w (fun _ => True) (.pointer (some ⟨s1, 0, none⟩)) n x from .inr ⟨s1, b1, rfl, h1, trivial, trivial⟩)
  have H2 := Lib.hid (show SetP w (fun _ => True) (.pointer (some ⟨s2, 0, none⟩)) n x from .inr ⟨s2, b2, rfl, h2, trivial, trivial⟩)
  have I1 := Lib.hid h1
  have I2 := Lib.hid h2
  have hn : n ≤ 65536 := h1.2.2.2.2.1
  obtain ⟨m, hm⟩ : ∃ m, m = (n + 63) / 64 := ⟨_, rfl⟩
  have hml : m ≤ 1025 := by omega
  have HM := Lib.hid hm
  clear hm
  clear h1 h2 hn
  go_enter Tryz.func21, Tryz.ntmps21
  go_wp2_with fail
  refine spanOf_k _ _ s1 b1 s2 b2 n x x m HM.out I1.out I2.out ?_
  go_wp2_with fail
  go_loopw [9] (fun i wr => ∃ k : Nat, k ≤ m ∧ i = .int .i64 k ∧ wr = w) (fun i _ => m - (intOf i).toNat)
  case atStart => exact ⟨0, Nat.zero_le _, rfl, by first | rfl | trivial⟩
  case round =>
    obtain ⟨k, hk, rfl, rfl⟩ := hrel
    by_cases hkl : k < m
    · go_wp2_with fail
      refine word_p _ _ (fun _ => True) _ n x k H1.out ?_
      go_wp2_with fail
      refine word_p _ _ (fun _ => True) _ n x k H2.out ?_
      go_wp2_with fail
      go_roundw
      case rel => exact ⟨k + 1, by omega, by go_num, by first | rfl | trivial⟩
      case measure => simp [intOf]; omega
    · obtain rfl : k = m := by omega
      go_wp2_with fail
      exact hR
end Go.Proofs.YtmenipaibjifiaaGreatDoor
