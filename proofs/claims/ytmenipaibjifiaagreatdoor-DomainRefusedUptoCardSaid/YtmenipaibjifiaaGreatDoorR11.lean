/-
  bitset: what a set pointer says (nil too); Size, word, Rank, Count.
-/
import Derived.Test.YtmenipaibjifiaaGreatDoorR10
import Derived.Test.YtmenipaibjifiaaGreatDoorR06
import Derived.Test.YtmenipaibjifiaaGreatDoorR05
set_option linter.unusedVariables false
set_option linter.unusedSimpArgs false
namespace Go.Proofs.YtmenipaibjifiaaGreatDoor
open Go.RowKit Go.BigFrame

/-- A *Set: nil is the empty set of universe 0. -/
def SetP (w : World) (ok : Nat → Prop) (v : Value) (n : Nat) (ws : List Nat) : Prop :=
  (v = .pointer none ∧ n = 0 ∧ ws = []) ∨ ∃ s b, v = .pointer (some ⟨s, 0, none⟩) ∧ SetIn w s b n ws ∧ ok s ∧ ok b
theorem SetP.move {w w' : World} {ok ok' : Nat → Prop} {v : Value} {n : Nat} {ws : List Nat} (h : SetP w ok v n ws) (hm : ∀ k, ok k → k < w.heap.size → w'.heap[k]? = w.heap[k]?) (ho : ∀ k, ok k → k < w.heap.size → ok' k) : SetP w' ok' v n ws := by
  rcases h with h | ⟨s, b, e, hS, h1, h2⟩
  · exact .inl h
  · obtain ⟨_, a1, a2, _⟩ := id hS
    have l1 := (Array.getElem?_eq_some_iff.1 a1).1
    have l2 := (Array.getElem?_eq_some_iff.1 a2).1
    exact .inr ⟨s, b, e, hS.move (hm s h1 l1) (hm b h2 l2), ho s h1 l1, ho b h2 l2⟩

set_option maxRecDepth 100000 in
theorem size_p (R : Ending → World → Prop) (w : World) (ok : Nat → Prop) (v : Value) (n : Nat) (ws : List Nat) (hS : SetP w ok v n ws) (hR : R (.returned (.int .i64 n)) w) : Calls Tryz.prog 86 #[v] w R := by
  rcases hS with ⟨rfl, rfl, rfl⟩ | ⟨s, b, rfl, hS, _⟩
  · exact sizeNil_k R w hR
  · exact size_k R w s b n ws hS hR

set_option maxRecDepth 100000 in
theorem word_p (R : Ending → World → Prop) (w : World) (ok : Nat → Prop) (v : Value) (n : Nat) (ws : List Nat) (j : Nat) (hS : SetP w ok v n ws) (hR : R (.returned (.int .u64 ((ws.getD j 0 : Nat) : Int))) w) : Calls Tryz.prog 79 #[v, .int .i64 j] w R := by
  rcases hS with ⟨rfl, rfl, rfl⟩ | ⟨s, b, rfl, hS, _⟩
  · go_enter Tryz.func79, Tryz.ntmps79
    go_wp2_with fail
    exact hR
  · obtain ⟨_, hs, hb, hl, hn, hw⟩ := id hS
    have c1 : w.cell? ⟨s, 1, none⟩ = some (.slice (some ⟨b, 0, none⟩) ws.length ws.length) := cell_at hs rfl
    have HR := Lib.hid hR
    clear hR
    by_cases hj : j < ws.length
    · have c2 := hS.word hj
      have hv := HR.out
      rw [List.getD_eq_getElem?_getD, List.getElem?_eq_getElem hj, Option.getD_some] at hv
      have h1 : decide (ws.length ≤ j) = false := by simpa using hj
      go_enter Tryz.func79, Tryz.ntmps79
      go_wp2_with fail
      exact hv
    · have hv := HR.out
      rw [List.getD_eq_getElem?_getD, List.getElem?_eq_none (by omega), Option.getD_none] at hv
      have h1 : decide (ws.length ≤ j) = true := by simp; omega
      go_enter Tryz.func79, Tryz.ntmps79
      go_wp2_with fail
      exact hv

theorem pop_le (x : Nat) : ∀ k, pop x k ≤ k
  | 0 => Nat.le_refl _
  | k + 1 => by
    have := pop_le x k
    show pop x k + _ ≤ _
    split <;> omega
theorem popSum_bound (ws : List Nat) : ∀ k, k ≤ ws.length → popSum ws k ≤ 64 * k
  | 0, _ => Nat.le_refl _
  | k + 1, h => by
    have := popSum_bound ws k (by omega)
    rw [popSum_succ ws k (by omega)]
    have := pop_le (ws[k]'(by omega)) 64
    omega

set_option maxRecDepth 100000 in
set_option maxHeartbeats 2000000 in
theorem rank_k (R : Ending → World → Prop) (w : World) (s b n : Nat) (ws : List Nat) (hS : SetIn w s b n ws) (hn : n % 64 = 0) (hR : R (.returned (.int .i64 (popSum ws (n / 64)))) w) : Calls Tryz.prog 85 #[.pointer (some ⟨s, 0, none⟩), .int .i64 n] w R := by
  have HR := Lib.hid hR
  clear hR
  obtain ⟨_, hs, hb, hl, hn2, hw⟩ := id hS
  have c1 : w.cell? ⟨s, 1, none⟩ = some (.slice (some ⟨b, 0, none⟩) ws.length ws.length) := cell_at hs rfl
  by_cases h0 : n = 0
  · subst h0
    have hv := HR.out
    go_enter Tryz.func85, Tryz.ntmps85
    go_wp2_with (go_at_call 86; refine size_k _ _ s b 0 ws hS ?_)
    exact hv
  · have h1 : decide ((n : Int) ≤ 0) = false := by simp; omega
    go_enter Tryz.func85, Tryz.ntmps85
    go_wp2_with (go_at_call 86; refine size_k _ _ s b n ws hS ?_)
    go_loop [5, 6, 15] (fun acc _ i => ∃ k : Nat, k ≤ n / 64 ∧ i = .int .i64 k ∧ acc = .int .i64 (popSum ws k)) (fun _ _ i => n / 64 - (intOf i).toNat)
    case atStart => exact ⟨0, Nat.zero_le _, rfl, rfl⟩
    case round =>
      obtain ⟨k, hk, rfl, rfl⟩ := hrel
      have hps := popSum_bound ws k (by omega)
      by_cases hkl : k < n / 64
      · have g1 : decide ((k : Int) < (n : Int) / 64) = true := by simp; omega
        have hj : k < ws.length := by omega
        have c2 := hS.word hj
        have hs2 := popSum_succ ws k hj
        have hb2 := pop_le (ws[k]'hj) 64
        go_wp2_with (go_at_call 163; refine ones_k _ _ (ws[k]'hj) (hw _ (List.getElem_mem hj)) ?_)
        go_round
        case rel => exact ⟨k + 1, by omega, by go_num, by rw [hs2]; go_num⟩
        case measure => simp [intOf]; omega
      · have g1 : decide ((k : Int) < (n : Int) / 64) = false := by simp; omega
        obtain rfl : k = n / 64 := by omega
        have g2 : ((n : Int) % 64 == 0) = true := by simp; omega
        have hv := HR.out
        go_wp2_with fail
        exact hv
theorem rankNil_k (R : Ending → World → Prop) (w : World) (hR : R (.returned (.int .i64 0)) w) : Calls Tryz.prog 85 #[.pointer none, .int .i64 0] w R := by
  go_enter Tryz.func85, Tryz.ntmps85
  go_wp2_with (go_at_call 86; refine sizeNil_k _ _ ?_)
  exact hR
theorem mems_count {n : Nat} {ws : List Nat} (hl : ws.length = (n + 63) / 64) (hn : n % 64 = 0) : (mems n ws).length = popSum ws (n / 64) := by
  have := mems_words ws (n / 64) (by omega)
  rwa [show 64 * (n / 64) = n by omega] at this
set_option maxRecDepth 100000 in
theorem bcount_p (R : Ending → World → Prop) (w : World) (ok : Nat → Prop) (v : Value) (n : Nat) (ws : List Nat) (hS : SetP w ok v n ws) (hn : n % 64 = 0) (hR : R (.returned (.int .i64 ((mems n ws).length : Nat))) w) : Calls Tryz.prog 25 #[v] w R := by
  rcases hS with ⟨rfl, rfl, rfl⟩ | ⟨s, b, rfl, hS, _⟩
  · have hv : R (.returned (.int .i64 0)) w := hR
    go_enter Tryz.func25, Tryz.ntmps25
    go_wp2_with (first | (go_at_call 86; refine sizeNil_k _ _ ?_) | (go_at_call 85; refine rankNil_k _ _ ?_))
    exact hv
  · rw [mems_count hS.2.2.2.1 hn] at hR
    go_enter Tryz.func25, Tryz.ntmps25
    go_wp2_with (first | (go_at_call 86; refine size_k _ _ s b n ws hS ?_) | (go_at_call 85; refine rank_k _ _ s b n ws hS hn ?_))
    exact hR
theorem mems_succ (k : Nat) (ws : List Nat) : mems (k + 1) ws = mems k ws ++ if memW ws k then [k] else [] := by
  unfold mems
  rw [List.range_succ, List.filter_append]
  cases h : memW ws k <;> simp [h]
theorem SetP.le {w : World} {ok : Nat → Prop} {v : Value} {n : Nat} {ws : List Nat} (h : SetP w ok v n ws) : n ≤ 65536 := by
  rcases h with ⟨_, h, _⟩ | ⟨_, _, _, h, _⟩
  · omega
  · exact h.2.2.2.2.1
theorem infoInt : (Tryz.prog.info? 3).map (fun i => (i.zero, i.size, i.bytes)) = some (some (.int .i64 0), 1, 8) := by kernel_rfl
def natI (l : List Nat) : List Int := l.map fun (i : Nat) => (i : Int)
set_option maxRecDepth 100000 in
set_option maxHeartbeats 4000000 in
theorem members_p (R : Ending → World → Prop) (w : World) (ok : Nat → Prop) (v : Value) (n : Nat) (ws : List Nat) (hok : ∀ k, ok k → k < w.heap.size) (hS : SetP w ok v n ws) (hn : n % 64 = 0)
    (hR : ∀ v' w', Below w.heap.size w w' → SlK intsK 1 w' (fun k => w.heap.size ≤ k) v' (natI (mems n ws)) → R (.returned v') w') : Calls Tryz.prog 135 #[v] w R := by
  have HR := Lib.hid hR
  clear hR
  obtain ⟨i0, hi, hz0, hz1, hz2⟩ := info_parts infoInt
  have hle := hS.le
  have hml := mems_length_le n ws
  go_enter Tryz.func135, Tryz.ntmps135
  go_wp2_with (first | (go_at_call 25; refine bcount_p _ _ ok v n ws hS hn ?_) | (at_make; refine wpList_make_own _ rfl _ _ 43 rfl w.heap.size 3 i0 (.int .i64 0) 1 Tryz.underlying43 hi hz0 hz1 _ _ _ (mems n ws).length rfl rfl rfl (by rw [hz2]; omega) (by unfold maxLen; omega) (Nat.le_refl _) ?_))
  intro w1 hrow hg1
  have hO1 : OwnK intsK 1 3 w1 w.heap.size Non (.slice (some ⟨w.heap.size, 0, none⟩) 0 (mems n ws).length) ([] : List Int) := ⟨fun _ h => h.elim, [], hrow, rfl, fun j x cs h => by simp at h⟩
  have hB1 : Below w.heap.size w w1 := (Below.refl _ _).grown hg1 (Nat.le_refl _) (fun k h => by cases h)
  have hS1 : SetP w1 ok v n ws := hS.move (fun k hk _ => hB1.block k (hok k hk)) (fun _ h _ => h)
  clear hrow hg1
  go_wp2_with (go_at_call 86; refine size_p _ _ ok v n ws hS1 ?_)
  go_loopw [3, 4, 10] (fun out _ i wr => ∃ k : Nat, k ≤ n ∧ i = .int .i64 k ∧ Below w.heap.size w wr ∧ OwnK intsK 1 3 wr w.heap.size Non out (natI (mems k ws))) (fun _ _ i _ => n - (intOf i).toNat)
  case atStart => exact ⟨0, Nat.zero_le _, rfl, hB1, hO1⟩
  case round =>
    obtain ⟨k, hk, rfl, hB, hO⟩ := hrel
    have hSr : SetP wr ok v n ws := hS.move (fun k hk _ => hB.block k (hok k hk)) (fun _ h _ => h)
    have hmk := mems_length_le k ws
    have hms := mems_succ k ws
    by_cases hkl : k < n
    · have g1 : decide ((k : Int) < (n : Int)) = true := by simpa using hkl
      have g1' : decide (k < n) = true := by simpa using hkl
      rcases hSr with ⟨_, h0, _⟩ | ⟨s, b, rfl, hSr, _⟩
      · omega
      · cases hm : memW ws k with
        | true =>
          have hh : hasW n ws k = true := by rw [hasW_mem, hm]; simpa using hkl
          rw [hm] at hms
          go_wp2_with (first | (go_at_call 143; refine has_k _ _ s b n ws k hSr ?_; rw [hh]) | (at_builtin; (refine append_k intOk rfl _ _ 43 3 (.int .i64 0) 8 w.heap.size Non rfl Tryz.underlying43 infoInt rfl (by decide) (by decide) u3 (natI (mems k ws)) (k : Int) #[.int .i64 k] rfl rfl ?c1 hO rfl hB.size ?c3 ?_)))
          case c1 => simp [Value.oneCell']
          case c3 => simp [natI]; omega
          intro v2 w2 hO2 hg2 _
          have hB2 := hB.grown hg2 hB.size (fun k h => (hO.own k h).1)
          go_wp2
          go_roundw
          case rel => exact ⟨k + 1, by omega, by go_num, hB2, by rw [hms]; simpa [natI] using hO2⟩
          case measure => simp [intOf]; omega
        | false =>
          have hh : hasW n ws k = false := by rw [hasW_mem, hm]; simp
          rw [hm] at hms
          go_wp2_with (go_at_call 143; refine has_k _ _ s b n ws k hSr ?_; rw [hh])
          go_roundw
          case rel => exact ⟨k + 1, by omega, by go_num, hB, by rw [hms]; simpa [natI] using hO⟩
          case measure => simp [intOf]; omega
    · obtain rfl : k = n := by omega
      have hs := hO.slk intOk
      have hv := HR.out _ _ hB (SlK.mono intOk hs (fun j hj => hj.elim (fun h => h.elim) (fun h => (hO.own j h).1)))
      go_wp2_with fail
      exact hv
end Go.Proofs.YtmenipaibjifiaaGreatDoor
