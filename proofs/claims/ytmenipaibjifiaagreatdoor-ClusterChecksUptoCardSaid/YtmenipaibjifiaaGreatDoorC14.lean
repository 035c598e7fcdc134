/-
  berthref06.SameTexts.
-/
import Derived.Test.YtmenipaibjifiaaGreatDoorC12
set_option linter.unusedVariables false
set_option linter.unusedSimpArgs false
namespace Go.Proofs.YtmenipaibjifiaaGreatDoor
open Go.RowKit Go.BigFrame

set_option maxRecDepth 100000 in
set_option maxHeartbeats 2000000 in
theorem sameTexts_k (R : Ending → World → Prop) (w : World) (ok : Nat → Prop) (v v' : Value) (xs ys : List ByteArray) (hok : ∀ k, ok k → k < w.heap.size) (hx : SlK strsK 1 w ok v xs) (hy : SlK strsK 1 w ok v' ys) (hl : xs.length ≤ 1073741824) (hl' : ys.length ≤ 1073741824)
    (hR : ∀ w', Below w.heap.size w w' → R (.returned (.bool (decide (xs = ys)))) w') :
    Calls Tryz.prog 18 #[v, v'] w R := by
  obtain ⟨A, c, rfl, hlc, _⟩ := hx.form
  obtain ⟨A', c', rfl, hlc', _⟩ := hy.form
  have HR := Lib.hid hR
  clear hR
  by_cases hll : xs.length = ys.length
  · go_enter Tryz.func18, Tryz.ntmps18
    go_wp2_with fail
    go_loopw [5] (fun i wr => ∃ k : Nat, k ≤ xs.length ∧ i = .int .i64 k ∧ Below w.heap.size w wr ∧ xs.take k = ys.take k) (fun i _ => xs.length - (intOf i).toNat)
    case atStart => exact ⟨0, Nat.zero_le _, rfl, Below.refl _ _, by simp⟩
    case round =>
      obtain ⟨k, hk, rfl, hB, hin⟩ := hrel
      have Hin := Lib.hid hin
      clear hin
      by_cases hlt : k < xs.length
      · have hx' := hx.below strOk hB hok
        have hy' := hy.below strOk hB hok
        obtain ⟨b, off, c2, he, _, _, hbk, hbl, hce⟩ := hx'.addr (by omega)
        simp only [Value.slice.injEq] at he
        obtain ⟨rfl, -, rfl⟩ := he
        obtain ⟨b', off', c2', he, _, _, hbk', hbl', hce'⟩ := hy'.addr (by omega)
        simp only [Value.slice.injEq] at he
        obtain ⟨rfl, -, rfl⟩ := he
        obtain ⟨cs1, hc1, _, hc2⟩ := hce k hlt
        cases hc1
        obtain ⟨cs3, hc3, _, hc4⟩ := hce' k (by omega)
        cases hc3
        have c0 : wr.cell? ⟨b, off + k, none⟩ = some (.string (xs[k]'hlt)) := by simpa using hc2 0 _ rfl
        have d0 : wr.cell? ⟨b', off' + k, none⟩ = some (.string (ys[k]'(by omega))) := by simpa using hc4 0 _ rfl
        clear hce hce' hc2 hc4
        have HN : Hid (∀ w', Below w.heap.size w w' → ¬ (xs[k]'hlt) = (ys[k]'(by omega)) → R (.returned (.bool false)) w') := by
          intro w' hb hne
          have := HR.out w' hb
          rwa [show decide (xs = ys) = false by
            simp only [decide_eq_false_iff_not]
            rintro rfl
            exact hne rfl] at this
        have HT : Hid ((xs[k]'hlt) = (ys[k]'(by omega)) → xs.take (k + 1) = ys.take (k + 1)) := by
          intro h1
          rw [take_snoc xs k hlt, take_snoc ys k (by omega), Hin.out, h1]
        generalize (xs[k]'hlt) = xk at *
        generalize (ys[k]'(by omega)) = yk at *
        cases h1 : (xk.toList == yk.toList) with
        | true =>
          have h2 := ba_toList_inj.1 (eq_of_beq h1)
          have H2 := Lib.hid h2
          clear h2
          go_wp2_with fail
          try go_region
          try go_wp2_with fail
          go_roundw
          case rel => exact ⟨k + 1, by omega, by go_num, by first | exact hB.drew | exact hB, HT.out H2.out⟩
          case measure => simp [intOf]; omega
        | false =>
          have h2 : ¬ xk = yk := fun h => by rw [h] at h1; simp at h1
          have Hf := HN.out wr.drew hB.drew h2
          clear h2
          go_wp2_with fail
          try go_region
          try go_wp2_with fail
          exact Hf
      · have hv2 := HR.out _ hB
        obtain rfl : k = xs.length := by omega
        have he : xs = ys := by
          have := Hin.out
          rwa [List.take_length, List.take_of_length_le (by omega)] at this
        rw [show decide (xs = ys) = true by simpa using he] at hv2
        clear he
        go_wp2_with fail
        exact hv2
  · have hv2 := HR.out _ (Below.refl _ _)
    rw [show decide (xs = ys) = false by
      simp only [decide_eq_false_iff_not]
      rintro rfl
      exact hll rfl] at hv2
    go_enter Tryz.func18, Tryz.ntmps18
    have h3 : ((xs.length : Int) != (ys.length : Int)) = true := by simp; omega
    go_wp2_with fail
    exact hv2
end Go.Proofs.YtmenipaibjifiaaGreatDoor
