/-
  berthlaw06.roomyOf: a copy with spare room, in which marks stand.
-/
import Derived.Test.YtdceflgemhcgcaaGreatDoorP20
import Derived.Test.YtdceflgemhcgcaaGreatDoorP21
set_option linter.unusedVariables false
set_option linter.unusedSimpArgs false
namespace Go.Proofs.YtdceflgemhcgcaaGreatDoor
open Go.RowKit Go.BigFrame

set_option maxRecDepth 100000 in
set_option maxHeartbeats 8000000 in
theorem roomyL_k (R : Ending → World → Prop) (w : World) (ok : Nat → Prop) (v : Value) (xs : List Lab) (hok : ∀ k, ok k → k < w.heap.size) (hx : SlK labK 2 w ok v xs) (hl : xs.length ≤ 1073741824) (s : Lab)
    (hR : ∀ bb w', Below w.heap.size w w' → OwnK labK 2 118 w' w.heap.size (fun _ => False) (.slice (some ⟨bb, 0, none⟩) (xs.length + 80) (xs.length + 80)) (xs ++ List.replicate 80 s) → R (.returned (.slice (some ⟨bb, 0, none⟩) xs.length (xs.length + 80))) w') :
    Calls Tryz.prog 42 #[v, .agg #[.string s.key, .string s.val]] w R := by
  obtain ⟨A, d, rfl, _, _⟩ := hx.form
  have HR := Lib.hid hR
  have HOK := Lib.hid hok
  have HX := Lib.hid hx
  obtain ⟨c, hc⟩ : ∃ c, c = xs.length + 80 := ⟨_, rfl⟩
  obtain ⟨w1, hw1⟩ : ∃ w1, w1 = w.alloc (.cells #[.string s.key, .string s.val] 118) := ⟨_, rfl⟩
  have HB1 := Lib.hid (show Below w.heap.size w w1 by rw [hw1]; exact Below.alloc (Below.refl _ _) (Nat.le_refl _) _)
  have HO1 := Lib.hid (show w1.heap[w.heap.size]? = some (.cells #[.string s.key, .string s.val] 118 (0, 0)) by rw [hw1]; exact heap_alloc_new w _)
  obtain ⟨bb, hbb⟩ : ∃ bb, bb = w1.heap.size := ⟨_, rfl⟩
  have z1 : w.heap.size < bb := by rw [hbb, hw1]; simp
  have hcI : ((xs.length : Int) + 80).toNat = c := by omega
  clear hR hok hx
  obtain ⟨i0, hi0, hzz⟩ := Option.map_eq_some_iff.1 infoLab
  simp only [Prod.mk.injEq] at hzz
  obtain ⟨hz0, hz1, hz2⟩ := hzz
  have hmk := run_make (P := Tryz.prog) w1 22 118 i0 _ Tryz.underlying22 hi0 hz0 .i64 .i64 0 ((xs.length : Int) + 80) (by omega) (by omega) (by rw [hz2]; omega) (by omega)
  rw [hz1] at hmk
  simp only [hcI, Int.toNat_zero] at hmk
  clear hcI
  obtain ⟨w2, hw2⟩ : ∃ w2, w2 = w1.alloc (.cells (madeCells (Value.agg #[.string ⟨#[]⟩, .string ⟨#[]⟩]).cells (c * 2)) 118) := ⟨_, rfl⟩
  have HB2 := Lib.hid (show Below w.heap.size w w2 by rw [hw2]; exact Below.alloc HB1.out HB1.out.size _)
  have HO2 := Lib.hid (show w2.heap[w.heap.size]? = some (.cells #[.string s.key, .string s.val] 118 (0, 0)) by rw [hw2]; exact hkeep HO1.out _)
  have HW2 := Lib.hid (show OwnK labK 2 118 w2 w.heap.size (fun _ => False) (.slice (some ⟨bb, 0, none⟩) (0) c) ([] : List Lab) by rw [hw2, hbb]; exact OwnK.made (fun _ h => h.elim) HB1.out.size (by simp [maxLen]; omega) (size_madeCells _ _))
  rw [← hw2, ← hbb] at hmk
  obtain ⟨w3, hrun, hO3, hg3⟩ := app_room (P := Tryz.prog) (W := w2) (enc := labC) (k := 2) (fun _ => rfl) (by decide) 22 22 118 (.agg #[.string ⟨#[]⟩, .string ⟨#[]⟩]) 32 Tryz.underlying22 infoLab rfl (by decide) (by intro _ u hu; simp [labC] at hu; rcases hu with rfl | rfl <;> rfl) w.heap.size bb c ok (.slice A xs.length d) ([] : List Lab) (xs) HW2.out (HX.out.below labOk HB2.out HOK.out) (by simp; omega) HB2.out.size (by simp; omega)
  simp only [List.length_nil, Nat.zero_add, List.nil_append] at hrun hO3
  have HB3 := Lib.hid (HB2.out.grown hg3 HB2.out.size (fun k h => by cases h; omega))
  have HO3 := Lib.hid (show w3.heap[w.heap.size]? = some (.cells #[.string s.key, .string s.val] 118 (0, 0)) by rw [hg3.block _ (by have := (Array.getElem?_eq_some_iff.1 HO2.out).1; exact this) (by simp; omega)]; exact HO2.out)
  have HW3 := Lib.hid hO3
  have HRUN := Lib.hid hrun
  have HCC := Lib.hid hc
  clear hrun hO3 hg3 hi0 hz0 hz1 hz2 hw2 hc hbb
  go_enter Tryz.func42, Tryz.ntmps42
  go_upto_region 1 with fail
  rw [← hw1]
  clear hw1
  go_upto_region 2 with fail
  clear hmk
  have hrun := HRUN.out
  go_upto_region 3 with (at_builtin; refine wpList_appendR rfl _ _ 22 rfl (.slice (some ⟨bb, 0, none⟩) 0 c) (.slice A xs.length d) (.slice (some ⟨bb, 0, none⟩) xs.length c) rfl rfl hrun ?_)
  clear hrun HRUN
  go_wp2_with fail
  go_loopw [6, 7] (fun g i wr => ∃ q : Nat, q ≤ 80 ∧ i = .int .i64 q ∧ g = .slice (some ⟨bb, 0, none⟩) (xs.length + q) c ∧ Below w.heap.size w wr ∧ wr.heap[w.heap.size]? = some (.cells #[.string s.key, .string s.val] 118 (0, 0)) ∧ OwnK labK 2 118 wr w.heap.size (fun _ => False) (.slice (some ⟨bb, 0, none⟩) (xs.length + q) c) (xs ++ List.replicate q s)) (fun _ i _ => 80 - (intOf i).toNat)
  case atStart => exact ⟨0, by omega, rfl, rfl, HB3.out, HO3.out, by simpa using HW3.out⟩
  case round =>
    obtain ⟨q, hq, rfl, rfl, hB, ho, hO⟩ := hrel
    have HB := Lib.hid hB
    have HW := Lib.hid hO
    clear hB hO
    have hlq : (xs ++ List.replicate q s).length = xs.length + q := by simp
    by_cases hlt : q < 80
    · obtain ⟨w5, hw5⟩ : ∃ W, W = wr.alloc (.cells #[.string s.key, .string s.val] 118) := ⟨_, rfl⟩
      have HB5 := Lib.hid (show Below w.heap.size w w5 by rw [hw5]; exact Below.alloc HB.out HB.out.size _)
      have HO5 := Lib.hid (show w5.heap[w.heap.size]? = some (.cells #[.string s.key, .string s.val] 118 (0, 0)) by rw [hw5]; exact hkeep ho _)
      have ho5 : w5.heap[wr.heap.size]? = some (.cells #[.string s.key, .string s.val] 118 (0, 0)) := by rw [hw5]; exact heap_alloc_new _ _
      have HW5 := Lib.hid (show OwnK labK 2 118 w5 w.heap.size (fun _ => False) (.slice (some ⟨bb, 0, none⟩) ((xs ++ List.replicate q s).length) c) (xs ++ List.replicate q s) by rw [hlq, hw5]; exact HW.out.alloc labOk _)
      have hsl : SlK labK 2 w5 (fun _ => True) (.slice (some ⟨wr.heap.size, 0, none⟩) 1 1) [s] := ⟨_, _, rfl, Nat.le_refl _, by simp [maxLen], .inr ⟨_, 0, rfl, trivial, (Array.getElem?_eq_some_iff.1 ho5).1, fun j x hj => by
        have h0 : j = 0 := by have := (List.getElem?_eq_some_iff.1 hj).1; simp at this; omega
        subst h0
        simp at hj
        subst hj
        exact ⟨_, rfl, rfl, fun i u hu => by rw [Nat.zero_mul, Nat.zero_add, Nat.zero_add]; exact cell_at ho5 (by simpa [labC] using hu)⟩⟩⟩
      obtain ⟨w6, hrun, hO6, hg6⟩ := app_room (P := Tryz.prog) (W := w5) (enc := labC) (k := 2) (fun _ => rfl) (by decide) 22 22 118 (.agg #[.string ⟨#[]⟩, .string ⟨#[]⟩]) 32 Tryz.underlying22 infoLab rfl (by decide) (by intro _ u hu; simp [labC] at hu; rcases hu with rfl | rfl <;> rfl) w.heap.size bb c (fun _ => True) _ (xs ++ List.replicate q s) ([s]) HW5.out hsl (by rw [hlq, HCC.out]; simp; omega) HB5.out.size (by rw [hlq]; simp; omega)
      rw [hlq] at hrun
      have HB6 := Lib.hid (HB5.out.grown hg6 HB5.out.size (fun k h => by cases h; omega))
      have HO6 := Lib.hid (show w6.heap[w.heap.size]? = some (.cells #[.string s.key, .string s.val] 118 (0, 0)) by rw [hg6.block _ (by have := (Array.getElem?_eq_some_iff.1 HO5.out).1; exact this) (by simp; omega)]; exact HO5.out)
      have HW6 := Lib.hid (show OwnK labK 2 118 w6 w.heap.size (fun _ => False) (.slice (some ⟨bb, 0, none⟩) (xs.length + (q + 1)) c) (xs ++ List.replicate (q + 1) s) by
        rw [List.replicate_succ', ← List.append_assoc]
        have e : ((xs ++ List.replicate q s) ++ [s]).length = xs.length + (q + 1) := by simp [Nat.add_assoc]
        rw [e] at hO6
        exact hO6)
      rw [hw5] at hrun
      clear hO6 hg6 hsl ho5 hw5 hlq
      go_wp2_with (first | (refine wpList_load_row rfl 118 _ rfl w.heap.size rfl 118 #[.string s.key, .string s.val] (0, 0) _ ho Tryz.underlying118 rfl (by kernel_rfl) ?_) | (at_builtin; refine wpList_appendR rfl _ _ 22 rfl (.slice (some ⟨bb, 0, none⟩) (xs.length + q) c) (.slice (some ⟨wr.heap.size, 0, none⟩) 1 1) (.slice (some ⟨bb, 0, none⟩) (xs.length + q + 1) c) rfl rfl hrun ?_; clear hrun ho))
      refine ⟨⟨q + 1, by omega, by go_num, rfl, HB6.out, HO6.out, HW6.out⟩, ?_⟩
      simp [intOf]; omega
    · have hv : R (.returned (.slice (some ⟨bb, 0, none⟩) xs.length c)) wr := by
        have e : q = 80 := by omega
        have h := HW.out
        rw [e, HCC.out] at h
        have := HR.out bb wr HB.out h
        rwa [← HCC.out] at this
      have e80 : ¬ ((q : Int) < 80) := by omega
      clear hq hlq ho z1
      go_wp2_with fail
      exact hv
set_option maxRecDepth 100000 in
set_option maxHeartbeats 8000000 in
theorem roomyT_k (R : Ending → World → Prop) (w : World) (ok : Nat → Prop) (v : Value) (xs : List Tnt) (hok : ∀ k, ok k → k < w.heap.size) (hx : SlK tntK 3 w ok v xs) (hl : xs.length ≤ 1073741824) (s : Tnt)
    (hR : ∀ bb w', Below w.heap.size w w' → OwnK tntK 3 34 w' w.heap.size (fun _ => False) (.slice (some ⟨bb, 0, none⟩) (xs.length + 80) (xs.length + 80)) (xs ++ List.replicate 80 s) → R (.returned (.slice (some ⟨bb, 0, none⟩) xs.length (xs.length + 80))) w') :
    Calls Tryz.prog 43 #[v, .agg #[.string s.key, .string s.val, .string s.eff]] w R := by
  obtain ⟨A, d, rfl, _, _⟩ := hx.form
  have HR := Lib.hid hR
  have HOK := Lib.hid hok
  have HX := Lib.hid hx
  obtain ⟨c, hc⟩ : ∃ c, c = xs.length + 80 := ⟨_, rfl⟩
  obtain ⟨w1, hw1⟩ : ∃ w1, w1 = w.alloc (.cells #[.string s.key, .string s.val, .string s.eff] 34) := ⟨_, rfl⟩
  have HB1 := Lib.hid (show Below w.heap.size w w1 by rw [hw1]; exact Below.alloc (Below.refl _ _) (Nat.le_refl _) _)
  have HO1 := Lib.hid (show w1.heap[w.heap.size]? = some (.cells #[.string s.key, .string s.val, .string s.eff] 34 (0, 0)) by rw [hw1]; exact heap_alloc_new w _)
  obtain ⟨bb, hbb⟩ : ∃ bb, bb = w1.heap.size := ⟨_, rfl⟩
  have z1 : w.heap.size < bb := by rw [hbb, hw1]; simp
  have hcI : ((xs.length : Int) + 80).toNat = c := by omega
  clear hR hok hx
  obtain ⟨i0, hi0, hzz⟩ := Option.map_eq_some_iff.1 infoTnt
  simp only [Prod.mk.injEq] at hzz
  obtain ⟨hz0, hz1, hz2⟩ := hzz
  have hmk := run_make (P := Tryz.prog) w1 23 34 i0 _ Tryz.underlying23 hi0 hz0 .i64 .i64 0 ((xs.length : Int) + 80) (by omega) (by omega) (by rw [hz2]; omega) (by omega)
  rw [hz1] at hmk
  simp only [hcI, Int.toNat_zero] at hmk
  clear hcI
  obtain ⟨w2, hw2⟩ : ∃ w2, w2 = w1.alloc (.cells (madeCells (Value.agg #[.string ⟨#[]⟩, .string ⟨#[]⟩, .string ⟨#[]⟩]).cells (c * 3)) 34) := ⟨_, rfl⟩
  have HB2 := Lib.hid (show Below w.heap.size w w2 by rw [hw2]; exact Below.alloc HB1.out HB1.out.size _)
  have HO2 := Lib.hid (show w2.heap[w.heap.size]? = some (.cells #[.string s.key, .string s.val, .string s.eff] 34 (0, 0)) by rw [hw2]; exact hkeep HO1.out _)
  have HW2 := Lib.hid (show OwnK tntK 3 34 w2 w.heap.size (fun _ => False) (.slice (some ⟨bb, 0, none⟩) (0) c) ([] : List Tnt) by rw [hw2, hbb]; exact OwnK.made (fun _ h => h.elim) HB1.out.size (by simp [maxLen]; omega) (size_madeCells _ _))
  rw [← hw2, ← hbb] at hmk
  obtain ⟨w3, hrun, hO3, hg3⟩ := app_room (P := Tryz.prog) (W := w2) (enc := tntC) (k := 3) (fun _ => rfl) (by decide) 23 23 34 (.agg #[.string ⟨#[]⟩, .string ⟨#[]⟩, .string ⟨#[]⟩]) 48 Tryz.underlying23 infoTnt rfl (by decide) (by intro _ u hu; simp [tntC] at hu; rcases hu with rfl | rfl | rfl <;> rfl) w.heap.size bb c ok (.slice A xs.length d) ([] : List Tnt) (xs) HW2.out (HX.out.below tntOk HB2.out HOK.out) (by simp; omega) HB2.out.size (by simp; omega)
  simp only [List.length_nil, Nat.zero_add, List.nil_append] at hrun hO3
  have HB3 := Lib.hid (HB2.out.grown hg3 HB2.out.size (fun k h => by cases h; omega))
  have HO3 := Lib.hid (show w3.heap[w.heap.size]? = some (.cells #[.string s.key, .string s.val, .string s.eff] 34 (0, 0)) by rw [hg3.block _ (by have := (Array.getElem?_eq_some_iff.1 HO2.out).1; exact this) (by simp; omega)]; exact HO2.out)
  have HW3 := Lib.hid hO3
  have HRUN := Lib.hid hrun
  have HCC := Lib.hid hc
  clear hrun hO3 hg3 hi0 hz0 hz1 hz2 hw2 hc hbb
  go_enter Tryz.func43, Tryz.ntmps43
  go_upto_region 1 with fail
  rw [← hw1]
  clear hw1
  go_upto_region 2 with fail
  clear hmk
  have hrun := HRUN.out
  go_upto_region 3 with (at_builtin; refine wpList_appendR rfl _ _ 23 rfl (.slice (some ⟨bb, 0, none⟩) 0 c) (.slice A xs.length d) (.slice (some ⟨bb, 0, none⟩) xs.length c) rfl rfl hrun ?_)
  clear hrun HRUN
  go_wp2_with fail
  go_loopw [6, 7] (fun g i wr => ∃ q : Nat, q ≤ 80 ∧ i = .int .i64 q ∧ g = .slice (some ⟨bb, 0, none⟩) (xs.length + q) c ∧ Below w.heap.size w wr ∧ wr.heap[w.heap.size]? = some (.cells #[.string s.key, .string s.val, .string s.eff] 34 (0, 0)) ∧ OwnK tntK 3 34 wr w.heap.size (fun _ => False) (.slice (some ⟨bb, 0, none⟩) (xs.length + q) c) (xs ++ List.replicate q s)) (fun _ i _ => 80 - (intOf i).toNat)
  case atStart => exact ⟨0, by omega, rfl, rfl, HB3.out, HO3.out, by simpa using HW3.out⟩
  case round =>
    obtain ⟨q, hq, rfl, rfl, hB, ho, hO⟩ := hrel
    have HB := Lib.hid hB
    have HW := Lib.hid hO
    clear hB hO
    have hlq : (xs ++ List.replicate q s).length = xs.length + q := by simp
    by_cases hlt : q < 80
    · obtain ⟨w5, hw5⟩ : ∃ W, W = wr.alloc (.cells #[.string s.key, .string s.val, .string s.eff] 34) := ⟨_, rfl⟩
      have HB5 := Lib.hid (show Below w.heap.size w w5 by rw [hw5]; exact Below.alloc HB.out HB.out.size _)
      have HO5 := Lib.hid (show w5.heap[w.heap.size]? = some (.cells #[.string s.key, .string s.val, .string s.eff] 34 (0, 0)) by rw [hw5]; exact hkeep ho _)
      have ho5 : w5.heap[wr.heap.size]? = some (.cells #[.string s.key, .string s.val, .string s.eff] 34 (0, 0)) := by rw [hw5]; exact heap_alloc_new _ _
      have HW5 := Lib.hid (show OwnK tntK 3 34 w5 w.heap.size (fun _ => False) (.slice (some ⟨bb, 0, none⟩) ((xs ++ List.replicate q s).length) c) (xs ++ List.replicate q s) by rw [hlq, hw5]; exact HW.out.alloc tntOk _)
      have hsl : SlK tntK 3 w5 (fun _ => True) (.slice (some ⟨wr.heap.size, 0, none⟩) 1 1) [s] := ⟨_, _, rfl, Nat.le_refl _, by simp [maxLen], .inr ⟨_, 0, rfl, trivial, (Array.getElem?_eq_some_iff.1 ho5).1, fun j x hj => by
        have h0 : j = 0 := by have := (List.getElem?_eq_some_iff.1 hj).1; simp at this; omega
        subst h0
        simp at hj
        subst hj
        exact ⟨_, rfl, rfl, fun i u hu => by rw [Nat.zero_mul, Nat.zero_add, Nat.zero_add]; exact cell_at ho5 (by simpa [tntC] using hu)⟩⟩⟩
      obtain ⟨w6, hrun, hO6, hg6⟩ := app_room (P := Tryz.prog) (W := w5) (enc := tntC) (k := 3) (fun _ => rfl) (by decide) 23 23 34 (.agg #[.string ⟨#[]⟩, .string ⟨#[]⟩, .string ⟨#[]⟩]) 48 Tryz.underlying23 infoTnt rfl (by decide) (by intro _ u hu; simp [tntC] at hu; rcases hu with rfl | rfl | rfl <;> rfl) w.heap.size bb c (fun _ => True) _ (xs ++ List.replicate q s) ([s]) HW5.out hsl (by rw [hlq, HCC.out]; simp; omega) HB5.out.size (by rw [hlq]; simp; omega)
      rw [hlq] at hrun
      have HB6 := Lib.hid (HB5.out.grown hg6 HB5.out.size (fun k h => by cases h; omega))
      have HO6 := Lib.hid (show w6.heap[w.heap.size]? = some (.cells #[.string s.key, .string s.val, .string s.eff] 34 (0, 0)) by rw [hg6.block _ (by have := (Array.getElem?_eq_some_iff.1 HO5.out).1; exact this) (by simp; omega)]; exact HO5.out)
      have HW6 := Lib.hid (show OwnK tntK 3 34 w6 w.heap.size (fun _ => False) (.slice (some ⟨bb, 0, none⟩) (xs.length + (q + 1)) c) (xs ++ List.replicate (q + 1) s) by
        rw [List.replicate_succ', ← List.append_assoc]
        have e : ((xs ++ List.replicate q s) ++ [s]).length = xs.length + (q + 1) := by simp [Nat.add_assoc]
        rw [e] at hO6
        exact hO6)
      rw [hw5] at hrun
      clear hO6 hg6 hsl ho5 hw5 hlq
      go_wp2_with (first | (refine wpList_load_row rfl 34 _ rfl w.heap.size rfl 34 #[.string s.key, .string s.val, .string s.eff] (0, 0) _ ho Tryz.underlying34 rfl (by kernel_rfl) ?_) | (at_builtin; refine wpList_appendR rfl _ _ 23 rfl (.slice (some ⟨bb, 0, none⟩) (xs.length + q) c) (.slice (some ⟨wr.heap.size, 0, none⟩) 1 1) (.slice (some ⟨bb, 0, none⟩) (xs.length + q + 1) c) rfl rfl hrun ?_; clear hrun ho))
      refine ⟨⟨q + 1, by omega, by go_num, rfl, HB6.out, HO6.out, HW6.out⟩, ?_⟩
      simp [intOf]; omega
    · have hv : R (.returned (.slice (some ⟨bb, 0, none⟩) xs.length c)) wr := by
        have e : q = 80 := by omega
        have h := HW.out
        rw [e, HCC.out] at h
        have := HR.out bb wr HB.out h
        rwa [← HCC.out] at this
      have e80 : ¬ ((q : Int) < 80) := by omega
      clear hq hlq ho z1
      go_wp2_with fail
      exact hv
set_option maxRecDepth 100000 in
set_option maxHeartbeats 8000000 in
theorem roomyI_k (R : Ending → World → Prop) (w : World) (ok : Nat → Prop) (v : Value) (xs : List Itm) (hok : ∀ k, ok k → k < w.heap.size) (hx : SlK itmK 2 w ok v xs) (hl : xs.length ≤ 1073741824) (s : Itm)
    (hR : ∀ bb w', Below w.heap.size w w' → OwnK itmK 2 110 w' w.heap.size (fun _ => False) (.slice (some ⟨bb, 0, none⟩) (xs.length + 80) (xs.length + 80)) (xs ++ List.replicate 80 s) → R (.returned (.slice (some ⟨bb, 0, none⟩) xs.length (xs.length + 80))) w') :
    Calls Tryz.prog 44 #[v, .agg #[.string s.name, .int .i64 s.n]] w R := by
  obtain ⟨A, d, rfl, _, _⟩ := hx.form
  have HR := Lib.hid hR
  have HOK := Lib.hid hok
  have HX := Lib.hid hx
  obtain ⟨c, hc⟩ : ∃ c, c = xs.length + 80 := ⟨_, rfl⟩
  obtain ⟨w1, hw1⟩ : ∃ w1, w1 = w.alloc (.cells #[.string s.name, .int .i64 s.n] 110) := ⟨_, rfl⟩
  have HB1 := Lib.hid (show Below w.heap.size w w1 by rw [hw1]; exact Below.alloc (Below.refl _ _) (Nat.le_refl _) _)
  have HO1 := Lib.hid (show w1.heap[w.heap.size]? = some (.cells #[.string s.name, .int .i64 s.n] 110 (0, 0)) by rw [hw1]; exact heap_alloc_new w _)
  obtain ⟨bb, hbb⟩ : ∃ bb, bb = w1.heap.size := ⟨_, rfl⟩
  have z1 : w.heap.size < bb := by rw [hbb, hw1]; simp
  have hcI : ((xs.length : Int) + 80).toNat = c := by omega
  clear hR hok hx
  obtain ⟨i0, hi0, hzz⟩ := Option.map_eq_some_iff.1 infoItm
  simp only [Prod.mk.injEq] at hzz
  obtain ⟨hz0, hz1, hz2⟩ := hzz
  have hmk := run_make (P := Tryz.prog) w1 24 110 i0 _ Tryz.underlying24 hi0 hz0 .i64 .i64 0 ((xs.length : Int) + 80) (by omega) (by omega) (by rw [hz2]; omega) (by omega)
  rw [hz1] at hmk
  simp only [hcI, Int.toNat_zero] at hmk
  clear hcI
  obtain ⟨w2, hw2⟩ : ∃ w2, w2 = w1.alloc (.cells (madeCells (Value.agg #[.string ⟨#[]⟩, .int .i64 0]).cells (c * 2)) 110) := ⟨_, rfl⟩
  have HB2 := Lib.hid (show Below w.heap.size w w2 by rw [hw2]; exact Below.alloc HB1.out HB1.out.size _)
  have HO2 := Lib.hid (show w2.heap[w.heap.size]? = some (.cells #[.string s.name, .int .i64 s.n] 110 (0, 0)) by rw [hw2]; exact hkeep HO1.out _)
  have HW2 := Lib.hid (show OwnK itmK 2 110 w2 w.heap.size (fun _ => False) (.slice (some ⟨bb, 0, none⟩) (0) c) ([] : List Itm) by rw [hw2, hbb]; exact OwnK.made (fun _ h => h.elim) HB1.out.size (by simp [maxLen]; omega) (size_madeCells _ _))
  rw [← hw2, ← hbb] at hmk
  obtain ⟨w3, hrun, hO3, hg3⟩ := app_room (P := Tryz.prog) (W := w2) (enc := itmC) (k := 2) (fun _ => rfl) (by decide) 24 24 110 (.agg #[.string ⟨#[]⟩, .int .i64 0]) 24 Tryz.underlying24 infoItm rfl (by decide) (by intro _ u hu; simp [itmC] at hu; rcases hu with rfl | rfl <;> rfl) w.heap.size bb c ok (.slice A xs.length d) ([] : List Itm) (xs) HW2.out (HX.out.below itmOk HB2.out HOK.out) (by simp; omega) HB2.out.size (by simp; omega)
  simp only [List.length_nil, Nat.zero_add, List.nil_append] at hrun hO3
  have HB3 := Lib.hid (HB2.out.grown hg3 HB2.out.size (fun k h => by cases h; omega))
  have HO3 := Lib.hid (show w3.heap[w.heap.size]? = some (.cells #[.string s.name, .int .i64 s.n] 110 (0, 0)) by rw [hg3.block _ (by have := (Array.getElem?_eq_some_iff.1 HO2.out).1; exact this) (by simp; omega)]; exact HO2.out)
  have HW3 := Lib.hid hO3
  have HRUN := Lib.hid hrun
  have HCC := Lib.hid hc
  clear hrun hO3 hg3 hi0 hz0 hz1 hz2 hw2 hc hbb
  go_enter Tryz.func44, Tryz.ntmps44
  go_upto_region 1 with fail
  rw [← hw1]
  clear hw1
  go_upto_region 2 with fail
  clear hmk
  have hrun := HRUN.out
  go_upto_region 3 with (at_builtin; refine wpList_appendR rfl _ _ 24 rfl (.slice (some ⟨bb, 0, none⟩) 0 c) (.slice A xs.length d) (.slice (some ⟨bb, 0, none⟩) xs.length c) rfl rfl hrun ?_)
  clear hrun HRUN
  go_wp2_with fail
  go_loopw [6, 7] (fun g i wr => ∃ q : Nat, q ≤ 80 ∧ i = .int .i64 q ∧ g = .slice (some ⟨bb, 0, none⟩) (xs.length + q) c ∧ Below w.heap.size w wr ∧ wr.heap[w.heap.size]? = some (.cells #[.string s.name, .int .i64 s.n] 110 (0, 0)) ∧ OwnK itmK 2 110 wr w.heap.size (fun _ => False) (.slice (some ⟨bb, 0, none⟩) (xs.length + q) c) (xs ++ List.replicate q s)) (fun _ i _ => 80 - (intOf i).toNat)
  case atStart => exact ⟨0, by omega, rfl, rfl, HB3.out, HO3.out, by simpa using HW3.out⟩
  case round =>
    obtain ⟨q, hq, rfl, rfl, hB, ho, hO⟩ := hrel
    have HB := Lib.hid hB
    have HW := Lib.hid hO
    clear hB hO
    have hlq : (xs ++ List.replicate q s).length = xs.length + q := by simp
    by_cases hlt : q < 80
    · obtain ⟨w5, hw5⟩ : ∃ W, W = wr.alloc (.cells #[.string s.name, .int .i64 s.n] 110) := ⟨_, rfl⟩
      have HB5 := Lib.hid (show Below w.heap.size w w5 by rw [hw5]; exact Below.alloc HB.out HB.out.size _)
      have HO5 := Lib.hid (show w5.heap[w.heap.size]? = some (.cells #[.string s.name, .int .i64 s.n] 110 (0, 0)) by rw [hw5]; exact hkeep ho _)
      have ho5 : w5.heap[wr.heap.size]? = some (.cells #[.string s.name, .int .i64 s.n] 110 (0, 0)) := by rw [hw5]; exact heap_alloc_new _ _
      have HW5 := Lib.hid (show OwnK itmK 2 110 w5 w.heap.size (fun _ => False) (.slice (some ⟨bb, 0, none⟩) ((xs ++ List.replicate q s).length) c) (xs ++ List.replicate q s) by rw [hlq, hw5]; exact HW.out.alloc itmOk _)
      have hsl : SlK itmK 2 w5 (fun _ => True) (.slice (some ⟨wr.heap.size, 0, none⟩) 1 1) [s] := ⟨_, _, rfl, Nat.le_refl _, by simp [maxLen], .inr ⟨_, 0, rfl, trivial, (Array.getElem?_eq_some_iff.1 ho5).1, fun j x hj => by
        have h0 : j = 0 := by have := (List.getElem?_eq_some_iff.1 hj).1; simp at this; omega
        subst h0
        simp at hj
        subst hj
        exact ⟨_, rfl, rfl, fun i u hu => by rw [Nat.zero_mul, Nat.zero_add, Nat.zero_add]; exact cell_at ho5 (by simpa [itmC] using hu)⟩⟩⟩
      obtain ⟨w6, hrun, hO6, hg6⟩ := app_room (P := Tryz.prog) (W := w5) (enc := itmC) (k := 2) (fun _ => rfl) (by decide) 24 24 110 (.agg #[.string ⟨#[]⟩, .int .i64 0]) 24 Tryz.underlying24 infoItm rfl (by decide) (by intro _ u hu; simp [itmC] at hu; rcases hu with rfl | rfl <;> rfl) w.heap.size bb c (fun _ => True) _ (xs ++ List.replicate q s) ([s]) HW5.out hsl (by rw [hlq, HCC.out]; simp; omega) HB5.out.size (by rw [hlq]; simp; omega)
      rw [hlq] at hrun
      have HB6 := Lib.hid (HB5.out.grown hg6 HB5.out.size (fun k h => by cases h; omega))
      have HO6 := Lib.hid (show w6.heap[w.heap.size]? = some (.cells #[.string s.name, .int .i64 s.n] 110 (0, 0)) by rw [hg6.block _ (by have := (Array.getElem?_eq_some_iff.1 HO5.out).1; exact this) (by simp; omega)]; exact HO5.out)
      have HW6 := Lib.hid (show OwnK itmK 2 110 w6 w.heap.size (fun _ => False) (.slice (some ⟨bb, 0, none⟩) (xs.length + (q + 1)) c) (xs ++ List.replicate (q + 1) s) by
        rw [List.replicate_succ', ← List.append_assoc]
        have e : ((xs ++ List.replicate q s) ++ [s]).length = xs.length + (q + 1) := by simp [Nat.add_assoc]
        rw [e] at hO6
        exact hO6)
      rw [hw5] at hrun
      clear hO6 hg6 hsl ho5 hw5 hlq
      go_wp2_with (first | (refine wpList_load_row rfl 110 _ rfl w.heap.size rfl 110 #[.string s.name, .int .i64 s.n] (0, 0) _ ho Tryz.underlying110 rfl (by kernel_rfl) ?_) | (at_builtin; refine wpList_appendR rfl _ _ 24 rfl (.slice (some ⟨bb, 0, none⟩) (xs.length + q) c) (.slice (some ⟨wr.heap.size, 0, none⟩) 1 1) (.slice (some ⟨bb, 0, none⟩) (xs.length + q + 1) c) rfl rfl hrun ?_; clear hrun ho))
      refine ⟨⟨q + 1, by omega, by go_num, rfl, HB6.out, HO6.out, HW6.out⟩, ?_⟩
      simp [intOf]; omega
    · have hv : R (.returned (.slice (some ⟨bb, 0, none⟩) xs.length c)) wr := by
        have e : q = 80 := by omega
        have h := HW.out
        rw [e, HCC.out] at h
        have := HR.out bb wr HB.out h
        rwa [← HCC.out] at this
      have e80 : ¬ ((q : Int) < 80) := by omega
      clear hq hlq ho z1
      go_wp2_with fail
      exact hv
set_option maxRecDepth 100000 in
set_option maxHeartbeats 8000000 in
theorem roomyO_k (R : Ending → World → Prop) (w : World) (ok : Nat → Prop) (v : Value) (xs : List Tol) (hok : ∀ k, ok k → k < w.heap.size) (hx : SlK tolK 4 w ok v xs) (hl : xs.length ≤ 1073741824) (s : Tol)
    (hR : ∀ bb w', Below w.heap.size w w' → OwnK tolK 4 123 w' w.heap.size (fun _ => False) (.slice (some ⟨bb, 0, none⟩) (xs.length + 80) (xs.length + 80)) (xs ++ List.replicate 80 s) → R (.returned (.slice (some ⟨bb, 0, none⟩) xs.length (xs.length + 80))) w') :
    Calls Tryz.prog 45 #[v, .agg #[.string s.key, .string s.op, .string s.val, .string s.eff]] w R := by
  obtain ⟨A, d, rfl, _, _⟩ := hx.form
  have HR := Lib.hid hR
  have HOK := Lib.hid hok
  have HX := Lib.hid hx
  obtain ⟨c, hc⟩ : ∃ c, c = xs.length + 80 := ⟨_, rfl⟩
  obtain ⟨w1, hw1⟩ : ∃ w1, w1 = w.alloc (.cells #[.string s.key, .string s.op, .string s.val, .string s.eff] 123) := ⟨_, rfl⟩
  have HB1 := Lib.hid (show Below w.heap.size w w1 by rw [hw1]; exact Below.alloc (Below.refl _ _) (Nat.le_refl _) _)
  have HO1 := Lib.hid (show w1.heap[w.heap.size]? = some (.cells #[.string s.key, .string s.op, .string s.val, .string s.eff] 123 (0, 0)) by rw [hw1]; exact heap_alloc_new w _)
  obtain ⟨bb, hbb⟩ : ∃ bb, bb = w1.heap.size := ⟨_, rfl⟩
  have z1 : w.heap.size < bb := by rw [hbb, hw1]; simp
  have hcI : ((xs.length : Int) + 80).toNat = c := by omega
  clear hR hok hx
  obtain ⟨i0, hi0, hzz⟩ := Option.map_eq_some_iff.1 infoTol
  simp only [Prod.mk.injEq] at hzz
  obtain ⟨hz0, hz1, hz2⟩ := hzz
  have hmk := run_make (P := Tryz.prog) w1 27 123 i0 _ Tryz.underlying27 hi0 hz0 .i64 .i64 0 ((xs.length : Int) + 80) (by omega) (by omega) (by rw [hz2]; omega) (by omega)
  rw [hz1] at hmk
  simp only [hcI, Int.toNat_zero] at hmk
  clear hcI
  obtain ⟨w2, hw2⟩ : ∃ w2, w2 = w1.alloc (.cells (madeCells (Value.agg #[.string ⟨#[]⟩, .string ⟨#[]⟩, .string ⟨#[]⟩, .string ⟨#[]⟩]).cells (c * 4)) 123) := ⟨_, rfl⟩
  have HB2 := Lib.hid (show Below w.heap.size w w2 by rw [hw2]; exact Below.alloc HB1.out HB1.out.size _)
  have HO2 := Lib.hid (show w2.heap[w.heap.size]? = some (.cells #[.string s.key, .string s.op, .string s.val, .string s.eff] 123 (0, 0)) by rw [hw2]; exact hkeep HO1.out _)
  have HW2 := Lib.hid (show OwnK tolK 4 123 w2 w.heap.size (fun _ => False) (.slice (some ⟨bb, 0, none⟩) (0) c) ([] : List Tol) by rw [hw2, hbb]; exact OwnK.made (fun _ h => h.elim) HB1.out.size (by simp [maxLen]; omega) (size_madeCells _ _))
  rw [← hw2, ← hbb] at hmk
  obtain ⟨w3, hrun, hO3, hg3⟩ := app_room (P := Tryz.prog) (W := w2) (enc := tolC) (k := 4) (fun _ => rfl) (by decide) 27 27 123 (.agg #[.string ⟨#[]⟩, .string ⟨#[]⟩, .string ⟨#[]⟩, .string ⟨#[]⟩]) 64 Tryz.underlying27 infoTol rfl (by decide) (by intro _ u hu; simp [tolC] at hu; rcases hu with rfl | rfl | rfl | rfl <;> rfl) w.heap.size bb c ok (.slice A xs.length d) ([] : List Tol) (xs) HW2.out (HX.out.below tolOk HB2.out HOK.out) (by simp; omega) HB2.out.size (by simp; omega)
  simp only [List.length_nil, Nat.zero_add, List.nil_append] at hrun hO3
  have HB3 := Lib.hid (HB2.out.grown hg3 HB2.out.size (fun k h => by cases h; omega))
  have HO3 := Lib.hid (show w3.heap[w.heap.size]? = some (.cells #[.string s.key, .string s.op, .string s.val, .string s.eff] 123 (0, 0)) by rw [hg3.block _ (by have := (Array.getElem?_eq_some_iff.1 HO2.out).1; exact this) (by simp; omega)]; exact HO2.out)
  have HW3 := Lib.hid hO3
  have HRUN := Lib.hid hrun
  have HCC := Lib.hid hc
  clear hrun hO3 hg3 hi0 hz0 hz1 hz2 hw2 hc hbb
  go_enter Tryz.func45, Tryz.ntmps45
  go_upto_region 1 with fail
  rw [← hw1]
  clear hw1
  go_upto_region 2 with fail
  clear hmk
  have hrun := HRUN.out
  go_upto_region 3 with (at_builtin; refine wpList_appendR rfl _ _ 27 rfl (.slice (some ⟨bb, 0, none⟩) 0 c) (.slice A xs.length d) (.slice (some ⟨bb, 0, none⟩) xs.length c) rfl rfl hrun ?_)
  clear hrun HRUN
  go_wp2_with fail
  go_loopw [6, 7] (fun g i wr => ∃ q : Nat, q ≤ 80 ∧ i = .int .i64 q ∧ g = .slice (some ⟨bb, 0, none⟩) (xs.length + q) c ∧ Below w.heap.size w wr ∧ wr.heap[w.heap.size]? = some (.cells #[.string s.key, .string s.op, .string s.val, .string s.eff] 123 (0, 0)) ∧ OwnK tolK 4 123 wr w.heap.size (fun _ => False) (.slice (some ⟨bb, 0, none⟩) (xs.length + q) c) (xs ++ List.replicate q s)) (fun _ i _ => 80 - (intOf i).toNat)
  case atStart => exact ⟨0, by omega, rfl, rfl, HB3.out, HO3.out, by simpa using HW3.out⟩
  case round =>
    obtain ⟨q, hq, rfl, rfl, hB, ho, hO⟩ := hrel
    have HB := Lib.hid hB
    have HW := Lib.hid hO
    clear hB hO
    have hlq : (xs ++ List.replicate q s).length = xs.length + q := by simp
    by_cases hlt : q < 80
    · obtain ⟨w5, hw5⟩ : ∃ W, W = wr.alloc (.cells #[.string s.key, .string s.op, .string s.val, .string s.eff] 123) := ⟨_, rfl⟩
      have HB5 := Lib.hid (show Below w.heap.size w w5 by rw [hw5]; exact Below.alloc HB.out HB.out.size _)
      have HO5 := Lib.hid (show w5.heap[w.heap.size]? = some (.cells #[.string s.key, .string s.op, .string s.val, .string s.eff] 123 (0, 0)) by rw [hw5]; exact hkeep ho _)
      have ho5 : w5.heap[wr.heap.size]? = some (.cells #[.string s.key, .string s.op, .string s.val, .string s.eff] 123 (0, 0)) := by rw [hw5]; exact heap_alloc_new _ _
      have HW5 := Lib.hid (show OwnK tolK 4 123 w5 w.heap.size (fun _ => False) (.slice (some ⟨bb, 0, none⟩) ((xs ++ List.replicate q s).length) c) (xs ++ List.replicate q s) by rw [hlq, hw5]; exact HW.out.alloc tolOk _)
      have hsl : SlK tolK 4 w5 (fun _ => True) (.slice (some ⟨wr.heap.size, 0, none⟩) 1 1) [s] := ⟨_, _, rfl, Nat.le_refl _, by simp [maxLen], .inr ⟨_, 0, rfl, trivial, (Array.getElem?_eq_some_iff.1 ho5).1, fun j x hj => by
        have h0 : j = 0 := by have := (List.getElem?_eq_some_iff.1 hj).1; simp at this; omega
        subst h0
        simp at hj
        subst hj
        exact ⟨_, rfl, rfl, fun i u hu => by rw [Nat.zero_mul, Nat.zero_add, Nat.zero_add]; exact cell_at ho5 (by simpa [tolC] using hu)⟩⟩⟩
      obtain ⟨w6, hrun, hO6, hg6⟩ := app_room (P := Tryz.prog) (W := w5) (enc := tolC) (k := 4) (fun _ => rfl) (by decide) 27 27 123 (.agg #[.string ⟨#[]⟩, .string ⟨#[]⟩, .string ⟨#[]⟩, .string ⟨#[]⟩]) 64 Tryz.underlying27 infoTol rfl (by decide) (by intro _ u hu; simp [tolC] at hu; rcases hu with rfl | rfl | rfl | rfl <;> rfl) w.heap.size bb c (fun _ => True) _ (xs ++ List.replicate q s) ([s]) HW5.out hsl (by rw [hlq, HCC.out]; simp; omega) HB5.out.size (by rw [hlq]; simp; omega)
      rw [hlq] at hrun
      have HB6 := Lib.hid (HB5.out.grown hg6 HB5.out.size (fun k h => by cases h; omega))
      have HO6 := Lib.hid (show w6.heap[w.heap.size]? = some (.cells #[.string s.key, .string s.op, .string s.val, .string s.eff] 123 (0, 0)) by rw [hg6.block _ (by have := (Array.getElem?_eq_some_iff.1 HO5.out).1; exact this) (by simp; omega)]; exact HO5.out)
      have HW6 := Lib.hid (show OwnK tolK 4 123 w6 w.heap.size (fun _ => False) (.slice (some ⟨bb, 0, none⟩) (xs.length + (q + 1)) c) (xs ++ List.replicate (q + 1) s) by
        rw [List.replicate_succ', ← List.append_assoc]
        have e : ((xs ++ List.replicate q s) ++ [s]).length = xs.length + (q + 1) := by simp [Nat.add_assoc]
        rw [e] at hO6
        exact hO6)
      rw [hw5] at hrun
      clear hO6 hg6 hsl ho5 hw5 hlq
      go_wp2_with (first | (refine wpList_load_row rfl 123 _ rfl w.heap.size rfl 123 #[.string s.key, .string s.op, .string s.val, .string s.eff] (0, 0) _ ho Tryz.underlying123 rfl (by kernel_rfl) ?_) | (at_builtin; refine wpList_appendR rfl _ _ 27 rfl (.slice (some ⟨bb, 0, none⟩) (xs.length + q) c) (.slice (some ⟨wr.heap.size, 0, none⟩) 1 1) (.slice (some ⟨bb, 0, none⟩) (xs.length + q + 1) c) rfl rfl hrun ?_; clear hrun ho))
      refine ⟨⟨q + 1, by omega, by go_num, rfl, HB6.out, HO6.out, HW6.out⟩, ?_⟩
      simp [intOf]; omega
    · have hv : R (.returned (.slice (some ⟨bb, 0, none⟩) xs.length c)) wr := by
        have e : q = 80 := by omega
        have h := HW.out
        rw [e, HCC.out] at h
        have := HR.out bb wr HB.out h
        rwa [← HCC.out] at this
      have e80 : ¬ ((q : Int) < 80) := by omega
      clear hq hlq ho z1
      go_wp2_with fail
      exact hv
set_option maxRecDepth 100000 in
set_option maxHeartbeats 8000000 in
theorem roomyA_k (R : Ending → World → Prop) (w : World) (ok : Nat → Prop) (v : Value) (xs : List Apt) (hok : ∀ k, ok k → k < w.heap.size) (hx : SlK aptK 2 w ok v xs) (hl : xs.length ≤ 1073741824) (s : Apt)
    (hR : ∀ bb w', Below w.heap.size w w' → OwnK aptK 2 126 w' w.heap.size (fun _ => False) (.slice (some ⟨bb, 0, none⟩) (xs.length + 80) (xs.length + 80)) (xs ++ List.replicate 80 s) → R (.returned (.slice (some ⟨bb, 0, none⟩) xs.length (xs.length + 80))) w') :
    Calls Tryz.prog 46 #[v, .agg #[.string s.topo, .string s.sel]] w R := by
  obtain ⟨A, d, rfl, _, _⟩ := hx.form
  have HR := Lib.hid hR
  have HOK := Lib.hid hok
  have HX := Lib.hid hx
  obtain ⟨c, hc⟩ : ∃ c, c = xs.length + 80 := ⟨_, rfl⟩
  obtain ⟨w1, hw1⟩ : ∃ w1, w1 = w.alloc (.cells #[.string s.topo, .string s.sel] 126) := ⟨_, rfl⟩
  have HB1 := Lib.hid (show Below w.heap.size w w1 by rw [hw1]; exact Below.alloc (Below.refl _ _) (Nat.le_refl _) _)
  have HO1 := Lib.hid (show w1.heap[w.heap.size]? = some (.cells #[.string s.topo, .string s.sel] 126 (0, 0)) by rw [hw1]; exact heap_alloc_new w _)
  obtain ⟨bb, hbb⟩ : ∃ bb, bb = w1.heap.size := ⟨_, rfl⟩
  have z1 : w.heap.size < bb := by rw [hbb, hw1]; simp
  have hcI : ((xs.length : Int) + 80).toNat = c := by omega
  clear hR hok hx
  obtain ⟨i0, hi0, hzz⟩ := Option.map_eq_some_iff.1 infoApt
  simp only [Prod.mk.injEq] at hzz
  obtain ⟨hz0, hz1, hz2⟩ := hzz
  have hmk := run_make (P := Tryz.prog) w1 28 126 i0 _ Tryz.underlying28 hi0 hz0 .i64 .i64 0 ((xs.length : Int) + 80) (by omega) (by omega) (by rw [hz2]; omega) (by omega)
  rw [hz1] at hmk
  simp only [hcI, Int.toNat_zero] at hmk
  clear hcI
  obtain ⟨w2, hw2⟩ : ∃ w2, w2 = w1.alloc (.cells (madeCells (Value.agg #[.string ⟨#[]⟩, .string ⟨#[]⟩]).cells (c * 2)) 126) := ⟨_, rfl⟩
  have HB2 := Lib.hid (show Below w.heap.size w w2 by rw [hw2]; exact Below.alloc HB1.out HB1.out.size _)
  have HO2 := Lib.hid (show w2.heap[w.heap.size]? = some (.cells #[.string s.topo, .string s.sel] 126 (0, 0)) by rw [hw2]; exact hkeep HO1.out _)
  have HW2 := Lib.hid (show OwnK aptK 2 126 w2 w.heap.size (fun _ => False) (.slice (some ⟨bb, 0, none⟩) (0) c) ([] : List Apt) by rw [hw2, hbb]; exact OwnK.made (fun _ h => h.elim) HB1.out.size (by simp [maxLen]; omega) (size_madeCells _ _))
  rw [← hw2, ← hbb] at hmk
  obtain ⟨w3, hrun, hO3, hg3⟩ := app_room (P := Tryz.prog) (W := w2) (enc := aptC) (k := 2) (fun _ => rfl) (by decide) 28 28 126 (.agg #[.string ⟨#[]⟩, .string ⟨#[]⟩]) 32 Tryz.underlying28 infoApt rfl (by decide) (by intro _ u hu; simp [aptC] at hu; rcases hu with rfl | rfl <;> rfl) w.heap.size bb c ok (.slice A xs.length d) ([] : List Apt) (xs) HW2.out (HX.out.below aptOk HB2.out HOK.out) (by simp; omega) HB2.out.size (by simp; omega)
  simp only [List.length_nil, Nat.zero_add, List.nil_append] at hrun hO3
  have HB3 := Lib.hid (HB2.out.grown hg3 HB2.out.size (fun k h => by cases h; omega))
  have HO3 := Lib.hid (show w3.heap[w.heap.size]? = some (.cells #[.string s.topo, .string s.sel] 126 (0, 0)) by rw [hg3.block _ (by have := (Array.getElem?_eq_some_iff.1 HO2.out).1; exact this) (by simp; omega)]; exact HO2.out)
  have HW3 := Lib.hid hO3
  have HRUN := Lib.hid hrun
  have HCC := Lib.hid hc
  clear hrun hO3 hg3 hi0 hz0 hz1 hz2 hw2 hc hbb
  go_enter Tryz.func46, Tryz.ntmps46
  go_upto_region 1 with fail
  rw [← hw1]
  clear hw1
  go_upto_region 2 with fail
  clear hmk
  have hrun := HRUN.out
  go_upto_region 3 with (at_builtin; refine wpList_appendR rfl _ _ 28 rfl (.slice (some ⟨bb, 0, none⟩) 0 c) (.slice A xs.length d) (.slice (some ⟨bb, 0, none⟩) xs.length c) rfl rfl hrun ?_)
  clear hrun HRUN
  go_wp2_with fail
  go_loopw [6, 7] (fun g i wr => ∃ q : Nat, q ≤ 80 ∧ i = .int .i64 q ∧ g = .slice (some ⟨bb, 0, none⟩) (xs.length + q) c ∧ Below w.heap.size w wr ∧ wr.heap[w.heap.size]? = some (.cells #[.string s.topo, .string s.sel] 126 (0, 0)) ∧ OwnK aptK 2 126 wr w.heap.size (fun _ => False) (.slice (some ⟨bb, 0, none⟩) (xs.length + q) c) (xs ++ List.replicate q s)) (fun _ i _ => 80 - (intOf i).toNat)
  case atStart => exact ⟨0, by omega, rfl, rfl, HB3.out, HO3.out, by simpa using HW3.out⟩
  case round =>
    obtain ⟨q, hq, rfl, rfl, hB, ho, hO⟩ := hrel
    have HB := Lib.hid hB
    have HW := Lib.hid hO
    clear hB hO
    have hlq : (xs ++ List.replicate q s).length = xs.length + q := by simp
    by_cases hlt : q < 80
    · obtain ⟨w5, hw5⟩ : ∃ W, W = wr.alloc (.cells #[.string s.topo, .string s.sel] 126) := ⟨_, rfl⟩
      have HB5 := Lib.hid (show Below w.heap.size w w5 by rw [hw5]; exact Below.alloc HB.out HB.out.size _)
      have HO5 := Lib.hid (show w5.heap[w.heap.size]? = some (.cells #[.string s.topo, .string s.sel] 126 (0, 0)) by rw [hw5]; exact hkeep ho _)
      have ho5 : w5.heap[wr.heap.size]? = some (.cells #[.string s.topo, .string s.sel] 126 (0, 0)) := by rw [hw5]; exact heap_alloc_new _ _
      have HW5 := Lib.hid (show OwnK aptK 2 126 w5 w.heap.size (fun _ => False) (.slice (some ⟨bb, 0, none⟩) ((xs ++ List.replicate q s).length) c) (xs ++ List.replicate q s) by rw [hlq, hw5]; exact HW.out.alloc aptOk _)
      have hsl : SlK aptK 2 w5 (fun _ => True) (.slice (some ⟨wr.heap.size, 0, none⟩) 1 1) [s] := ⟨_, _, rfl, Nat.le_refl _, by simp [maxLen], .inr ⟨_, 0, rfl, trivial, (Array.getElem?_eq_some_iff.1 ho5).1, fun j x hj => by
        have h0 : j = 0 := by have := (List.getElem?_eq_some_iff.1 hj).1; simp at this; omega
        subst h0
        simp at hj
        subst hj
        exact ⟨_, rfl, rfl, fun i u hu => by rw [Nat.zero_mul, Nat.zero_add, Nat.zero_add]; exact cell_at ho5 (by simpa [aptC] using hu)⟩⟩⟩
      obtain ⟨w6, hrun, hO6, hg6⟩ := app_room (P := Tryz.prog) (W := w5) (enc := aptC) (k := 2) (fun _ => rfl) (by decide) 28 28 126 (.agg #[.string ⟨#[]⟩, .string ⟨#[]⟩]) 32 Tryz.underlying28 infoApt rfl (by decide) (by intro _ u hu; simp [aptC] at hu; rcases hu with rfl | rfl <;> rfl) w.heap.size bb c (fun _ => True) _ (xs ++ List.replicate q s) ([s]) HW5.out hsl (by rw [hlq, HCC.out]; simp; omega) HB5.out.size (by rw [hlq]; simp; omega)
      rw [hlq] at hrun
      have HB6 := Lib.hid (HB5.out.grown hg6 HB5.out.size (fun k h => by cases h; omega))
      have HO6 := Lib.hid (show w6.heap[w.heap.size]? = some (.cells #[.string s.topo, .string s.sel] 126 (0, 0)) by rw [hg6.block _ (by have := (Array.getElem?_eq_some_iff.1 HO5.out).1; exact this) (by simp; omega)]; exact HO5.out)
      have HW6 := Lib.hid (show OwnK aptK 2 126 w6 w.heap.size (fun _ => False) (.slice (some ⟨bb, 0, none⟩) (xs.length + (q + 1)) c) (xs ++ List.replicate (q + 1) s) by
        rw [List.replicate_succ', ← List.append_assoc]
        have e : ((xs ++ List.replicate q s) ++ [s]).length = xs.length + (q + 1) := by simp [Nat.add_assoc]
        rw [e] at hO6
        exact hO6)
      rw [hw5] at hrun
      clear hO6 hg6 hsl ho5 hw5 hlq
      go_wp2_with (first | (refine wpList_load_row rfl 126 _ rfl w.heap.size rfl 126 #[.string s.topo, .string s.sel] (0, 0) _ ho Tryz.underlying126 rfl (by kernel_rfl) ?_) | (at_builtin; refine wpList_appendR rfl _ _ 28 rfl (.slice (some ⟨bb, 0, none⟩) (xs.length + q) c) (.slice (some ⟨wr.heap.size, 0, none⟩) 1 1) (.slice (some ⟨bb, 0, none⟩) (xs.length + q + 1) c) rfl rfl hrun ?_; clear hrun ho))
      refine ⟨⟨q + 1, by omega, by go_num, rfl, HB6.out, HO6.out, HW6.out⟩, ?_⟩
      simp [intOf]; omega
    · have hv : R (.returned (.slice (some ⟨bb, 0, none⟩) xs.length c)) wr := by
        have e : q = 80 := by omega
        have h := HW.out
        rw [e, HCC.out] at h
        have := HR.out bb wr HB.out h
        rwa [← HCC.out] at this
      have e80 : ¬ ((q : Int) < 80) := by omega
      clear hq hlq ho z1
      go_wp2_with fail
      exact hv
set_option maxRecDepth 100000 in
set_option maxHeartbeats 8000000 in
theorem roomyP_k (R : Ending → World → Prop) (w : World) (ok : Nat → Prop) (v : Value) (xs : List Prf) (hok : ∀ k, ok k → k < w.heap.size) (hx : SlK prfK 2 w ok v xs) (hl : xs.length ≤ 1073741824) (s : Prf)
    (hR : ∀ bb w', Below w.heap.size w w' → OwnK prfK 2 129 w' w.heap.size (fun _ => False) (.slice (some ⟨bb, 0, none⟩) (xs.length + 80) (xs.length + 80)) (xs ++ List.replicate 80 s) → R (.returned (.slice (some ⟨bb, 0, none⟩) xs.length (xs.length + 80))) w') :
    Calls Tryz.prog 47 #[v, .agg #[.int .i64 s.weight, .string s.text]] w R := by
  obtain ⟨A, d, rfl, _, _⟩ := hx.form
  have HR := Lib.hid hR
  have HOK := Lib.hid hok
  have HX := Lib.hid hx
  obtain ⟨c, hc⟩ : ∃ c, c = xs.length + 80 := ⟨_, rfl⟩
  obtain ⟨w1, hw1⟩ : ∃ w1, w1 = w.alloc (.cells #[.int .i64 s.weight, .string s.text] 129) := ⟨_, rfl⟩
  have HB1 := Lib.hid (show Below w.heap.size w w1 by rw [hw1]; exact Below.alloc (Below.refl _ _) (Nat.le_refl _) _)
  have HO1 := Lib.hid (show w1.heap[w.heap.size]? = some (.cells #[.int .i64 s.weight, .string s.text] 129 (0, 0)) by rw [hw1]; exact heap_alloc_new w _)
  obtain ⟨bb, hbb⟩ : ∃ bb, bb = w1.heap.size := ⟨_, rfl⟩
  have z1 : w.heap.size < bb := by rw [hbb, hw1]; simp
  have hcI : ((xs.length : Int) + 80).toNat = c := by omega
  clear hR hok hx
  obtain ⟨i0, hi0, hzz⟩ := Option.map_eq_some_iff.1 infoPrf
  simp only [Prod.mk.injEq] at hzz
  obtain ⟨hz0, hz1, hz2⟩ := hzz
  have hmk := run_make (P := Tryz.prog) w1 29 129 i0 _ Tryz.underlying29 hi0 hz0 .i64 .i64 0 ((xs.length : Int) + 80) (by omega) (by omega) (by rw [hz2]; omega) (by omega)
  rw [hz1] at hmk
  simp only [hcI, Int.toNat_zero] at hmk
  clear hcI
  obtain ⟨w2, hw2⟩ : ∃ w2, w2 = w1.alloc (.cells (madeCells (Value.agg #[.int .i64 0, .string ⟨#[]⟩]).cells (c * 2)) 129) := ⟨_, rfl⟩
  have HB2 := Lib.hid (show Below w.heap.size w w2 by rw [hw2]; exact Below.alloc HB1.out HB1.out.size _)
  have HO2 := Lib.hid (show w2.heap[w.heap.size]? = some (.cells #[.int .i64 s.weight, .string s.text] 129 (0, 0)) by rw [hw2]; exact hkeep HO1.out _)
  have HW2 := Lib.hid (show OwnK prfK 2 129 w2 w.heap.size (fun _ => False) (.slice (some ⟨bb, 0, none⟩) (0) c) ([] : List Prf) by rw [hw2, hbb]; exact OwnK.made (fun _ h => h.elim) HB1.out.size (by simp [maxLen]; omega) (size_madeCells _ _))
  rw [← hw2, ← hbb] at hmk
  obtain ⟨w3, hrun, hO3, hg3⟩ := app_room (P := Tryz.prog) (W := w2) (enc := prfC) (k := 2) (fun _ => rfl) (by decide) 29 29 129 (.agg #[.int .i64 0, .string ⟨#[]⟩]) 24 Tryz.underlying29 infoPrf rfl (by decide) (by intro _ u hu; simp [prfC] at hu; rcases hu with rfl | rfl <;> rfl) w.heap.size bb c ok (.slice A xs.length d) ([] : List Prf) (xs) HW2.out (HX.out.below prfOk HB2.out HOK.out) (by simp; omega) HB2.out.size (by simp; omega)
  simp only [List.length_nil, Nat.zero_add, List.nil_append] at hrun hO3
  have HB3 := Lib.hid (HB2.out.grown hg3 HB2.out.size (fun k h => by cases h; omega))
  have HO3 := Lib.hid (show w3.heap[w.heap.size]? = some (.cells #[.int .i64 s.weight, .string s.text] 129 (0, 0)) by rw [hg3.block _ (by have := (Array.getElem?_eq_some_iff.1 HO2.out).1; exact this) (by simp; omega)]; exact HO2.out)
  have HW3 := Lib.hid hO3
  have HRUN := Lib.hid hrun
  have HCC := Lib.hid hc
  clear hrun hO3 hg3 hi0 hz0 hz1 hz2 hw2 hc hbb
  go_enter Tryz.func47, Tryz.ntmps47
  go_upto_region 1 with fail
  rw [← hw1]
  clear hw1
  go_upto_region 2 with fail
  clear hmk
  have hrun := HRUN.out
  go_upto_region 3 with (at_builtin; refine wpList_appendR rfl _ _ 29 rfl (.slice (some ⟨bb, 0, none⟩) 0 c) (.slice A xs.length d) (.slice (some ⟨bb, 0, none⟩) xs.length c) rfl rfl hrun ?_)
  clear hrun HRUN
  go_wp2_with fail
  go_loopw [6, 7] (fun g i wr => ∃ q : Nat, q ≤ 80 ∧ i = .int .i64 q ∧ g = .slice (some ⟨bb, 0, none⟩) (xs.length + q) c ∧ Below w.heap.size w wr ∧ wr.heap[w.heap.size]? = some (.cells #[.int .i64 s.weight, .string s.text] 129 (0, 0)) ∧ OwnK prfK 2 129 wr w.heap.size (fun _ => False) (.slice (some ⟨bb, 0, none⟩) (xs.length + q) c) (xs ++ List.replicate q s)) (fun _ i _ => 80 - (intOf i).toNat)
  case atStart => exact ⟨0, by omega, rfl, rfl, HB3.out, HO3.out, by simpa using HW3.out⟩
  case round =>
    obtain ⟨q, hq, rfl, rfl, hB, ho, hO⟩ := hrel
    have HB := Lib.hid hB
    have HW := Lib.hid hO
    clear hB hO
    have hlq : (xs ++ List.replicate q s).length = xs.length + q := by simp
    by_cases hlt : q < 80
    · obtain ⟨w5, hw5⟩ : ∃ W, W = wr.alloc (.cells #[.int .i64 s.weight, .string s.text] 129) := ⟨_, rfl⟩
      have HB5 := Lib.hid (show Below w.heap.size w w5 by rw [hw5]; exact Below.alloc HB.out HB.out.size _)
      have HO5 := Lib.hid (show w5.heap[w.heap.size]? = some (.cells #[.int .i64 s.weight, .string s.text] 129 (0, 0)) by rw [hw5]; exact hkeep ho _)
      have ho5 : w5.heap[wr.heap.size]? = some (.cells #[.int .i64 s.weight, .string s.text] 129 (0, 0)) := by rw [hw5]; exact heap_alloc_new _ _
      have HW5 := Lib.hid (show OwnK prfK 2 129 w5 w.heap.size (fun _ => False) (.slice (some ⟨bb, 0, none⟩) ((xs ++ List.replicate q s).length) c) (xs ++ List.replicate q s) by rw [hlq, hw5]; exact HW.out.alloc prfOk _)
      have hsl : SlK prfK 2 w5 (fun _ => True) (.slice (some ⟨wr.heap.size, 0, none⟩) 1 1) [s] := ⟨_, _, rfl, Nat.le_refl _, by simp [maxLen], .inr ⟨_, 0, rfl, trivial, (Array.getElem?_eq_some_iff.1 ho5).1, fun j x hj => by
        have h0 : j = 0 := by have := (List.getElem?_eq_some_iff.1 hj).1; simp at this; omega
        subst h0
        simp at hj
        subst hj
        exact ⟨_, rfl, rfl, fun i u hu => by rw [Nat.zero_mul, Nat.zero_add, Nat.zero_add]; exact cell_at ho5 (by simpa [prfC] using hu)⟩⟩⟩
      obtain ⟨w6, hrun, hO6, hg6⟩ := app_room (P := Tryz.prog) (W := w5) (enc := prfC) (k := 2) (fun _ => rfl) (by decide) 29 29 129 (.agg #[.int .i64 0, .string ⟨#[]⟩]) 24 Tryz.underlying29 infoPrf rfl (by decide) (by intro _ u hu; simp [prfC] at hu; rcases hu with rfl | rfl <;> rfl) w.heap.size bb c (fun _ => True) _ (xs ++ List.replicate q s) ([s]) HW5.out hsl (by rw [hlq, HCC.out]; simp; omega) HB5.out.size (by rw [hlq]; simp; omega)
      rw [hlq] at hrun
      have HB6 := Lib.hid (HB5.out.grown hg6 HB5.out.size (fun k h => by cases h; omega))
      have HO6 := Lib.hid (show w6.heap[w.heap.size]? = some (.cells #[.int .i64 s.weight, .string s.text] 129 (0, 0)) by rw [hg6.block _ (by have := (Array.getElem?_eq_some_iff.1 HO5.out).1; exact this) (by simp; omega)]; exact HO5.out)
      have HW6 := Lib.hid (show OwnK prfK 2 129 w6 w.heap.size (fun _ => False) (.slice (some ⟨bb, 0, none⟩) (xs.length + (q + 1)) c) (xs ++ List.replicate (q + 1) s) by
        rw [List.replicate_succ', ← List.append_assoc]
        have e : ((xs ++ List.replicate q s) ++ [s]).length = xs.length + (q + 1) := by simp [Nat.add_assoc]
        rw [e] at hO6
        exact hO6)
      rw [hw5] at hrun
      clear hO6 hg6 hsl ho5 hw5 hlq
      go_wp2_with (first | (refine wpList_load_row rfl 129 _ rfl w.heap.size rfl 129 #[.int .i64 s.weight, .string s.text] (0, 0) _ ho Tryz.underlying129 rfl (by kernel_rfl) ?_) | (at_builtin; refine wpList_appendR rfl _ _ 29 rfl (.slice (some ⟨bb, 0, none⟩) (xs.length + q) c) (.slice (some ⟨wr.heap.size, 0, none⟩) 1 1) (.slice (some ⟨bb, 0, none⟩) (xs.length + q + 1) c) rfl rfl hrun ?_; clear hrun ho))
      refine ⟨⟨q + 1, by omega, by go_num, rfl, HB6.out, HO6.out, HW6.out⟩, ?_⟩
      simp [intOf]; omega
    · have hv : R (.returned (.slice (some ⟨bb, 0, none⟩) xs.length c)) wr := by
        have e : q = 80 := by omega
        have h := HW.out
        rw [e, HCC.out] at h
        have := HR.out bb wr HB.out h
        rwa [← HCC.out] at this
      have e80 : ¬ ((q : Int) < 80) := by omega
      clear hq hlq ho z1
      go_wp2_with fail
      exact hv
end Go.Proofs.YtdceflgemhcgcaaGreatDoor
