/-
berthlaw06.keeps: a roomy copy holds what it held, spare room included.
berthlaw06.WipeNode, WipePod: all lists of a node, of a pod written over, their room too: nothing but their own blocks has been written.
-/
import Derived.Test.YtdceflgemhcgcaaGreatDoorP22
import Derived.Test.YtdceflgemhcgcaaGreatDoorP12
import Derived.Test.YtdceflgemhcgcaaGreatDoorP21
import Derived.Test.YtdceflgemhcgcaaGreatDoorP17
set_option linter.unusedVariables false
set_option linter.unusedSimpArgs false
namespace Go.Proofs.YtdceflgemhcgcaaGreatDoor
open Go.RowKit Go.BigFrame

theorem roomy_at {α : Type} {xs : List α} {s : α} {k : Nat} (hk : k < (xs ++ List.replicate 80 s).length) : (∀ h : k < xs.length, (xs ++ List.replicate 80 s)[k]'hk = xs[k]'h) ∧ (¬ k < xs.length → (xs ++ List.replicate 80 s)[k]'hk = s) := by
  refine ⟨fun h => List.getElem_append_left h, fun h => ?_⟩
  rw [List.getElem_append_right (by omega)]
  exact List.getElem_replicate _
theorem tnt_cellsK {w : World} {ok : Nat → Prop} {b off : Nat} {l : List Tnt} (h : ∀ j (hj : j < l.length), ∃ cs, tntK w ok (l[j]'hj) cs ∧ cs.length = 3 ∧ ∀ i u, cs[i]? = some u → w.cell? ⟨b, off + (j * 3 + i), none⟩ = some u) (k : Nat) (hk : k < l.length) :
    w.cell? ⟨b, off + k * 3, none⟩ = some (.string (l[k]'hk).key) ∧ w.cell? ⟨b, off + k * 3 + 1, none⟩ = some (.string (l[k]'hk).val) ∧ w.cell? ⟨b, off + k * 3 + 2, none⟩ = some (.string (l[k]'hk).eff) := by
  obtain ⟨cs, h1, _, hc⟩ := h k hk
  cases h1
  exact ⟨hc 0 _ rfl, hc 1 _ rfl, hc 2 _ rfl⟩
theorem itm_cellsK {w : World} {ok : Nat → Prop} {b off : Nat} {l : List Itm} (h : ∀ j (hj : j < l.length), ∃ cs, itmK w ok (l[j]'hj) cs ∧ cs.length = 2 ∧ ∀ i u, cs[i]? = some u → w.cell? ⟨b, off + (j * 2 + i), none⟩ = some u) (k : Nat) (hk : k < l.length) :
    w.cell? ⟨b, off + k * 2, none⟩ = some (.string (l[k]'hk).name) ∧ w.cell? ⟨b, off + k * 2 + 1, none⟩ = some (.int .i64 (l[k]'hk).n) := by
  obtain ⟨cs, h1, _, hc⟩ := h k hk
  cases h1
  exact ⟨hc 0 _ rfl, hc 1 _ rfl⟩
theorem tol_cellsK {w : World} {ok : Nat → Prop} {b off : Nat} {l : List Tol} (h : ∀ j (hj : j < l.length), ∃ cs, tolK w ok (l[j]'hj) cs ∧ cs.length = 4 ∧ ∀ i u, cs[i]? = some u → w.cell? ⟨b, off + (j * 4 + i), none⟩ = some u) (k : Nat) (hk : k < l.length) :
    w.cell? ⟨b, off + k * 4, none⟩ = some (.string (l[k]'hk).key) ∧ w.cell? ⟨b, off + k * 4 + 1, none⟩ = some (.string (l[k]'hk).op) ∧ w.cell? ⟨b, off + k * 4 + 2, none⟩ = some (.string (l[k]'hk).val) ∧ w.cell? ⟨b, off + k * 4 + 3, none⟩ = some (.string (l[k]'hk).eff) := by
  obtain ⟨cs, h1, _, hc⟩ := h k hk
  cases h1
  exact ⟨hc 0 _ rfl, hc 1 _ rfl, hc 2 _ rfl, hc 3 _ rfl⟩
theorem apt_cellsK {w : World} {ok : Nat → Prop} {b off : Nat} {l : List Apt} (h : ∀ j (hj : j < l.length), ∃ cs, aptK w ok (l[j]'hj) cs ∧ cs.length = 2 ∧ ∀ i u, cs[i]? = some u → w.cell? ⟨b, off + (j * 2 + i), none⟩ = some u) (k : Nat) (hk : k < l.length) :
    w.cell? ⟨b, off + k * 2, none⟩ = some (.string (l[k]'hk).topo) ∧ w.cell? ⟨b, off + k * 2 + 1, none⟩ = some (.string (l[k]'hk).sel) := by
  obtain ⟨cs, h1, _, hc⟩ := h k hk
  cases h1
  exact ⟨hc 0 _ rfl, hc 1 _ rfl⟩
theorem prf_cellsK {w : World} {ok : Nat → Prop} {b off : Nat} {l : List Prf} (h : ∀ j (hj : j < l.length), ∃ cs, prfK w ok (l[j]'hj) cs ∧ cs.length = 2 ∧ ∀ i u, cs[i]? = some u → w.cell? ⟨b, off + (j * 2 + i), none⟩ = some u) (k : Nat) (hk : k < l.length) :
    w.cell? ⟨b, off + k * 2, none⟩ = some (.int .i64 (l[k]'hk).weight) ∧ w.cell? ⟨b, off + k * 2 + 1, none⟩ = some (.string (l[k]'hk).text) := by
  obtain ⟨cs, h1, _, hc⟩ := h k hk
  cases h1
  exact ⟨hc 0 _ rfl, hc 1 _ rfl⟩
set_option maxRecDepth 100000 in
set_option maxHeartbeats 8000000 in
theorem keepsL_k (R : Ending → World → Prop) (w : World) (ok ok2 : Nat → Prop) (A : Option Addr) (c : Nat) (v : Value) (xs ys : List Lab) (s : Lab) (hok : ∀ k, ok k → k < w.heap.size) (hok2 : ∀ k, ok2 k → k < w.heap.size) (hys : ys = xs ++ List.replicate 80 s) (hy : SlK labK 2 w ok (.slice A (xs.length + 80) c) ys) (hx : SlK labK 2 w ok2 v xs) (hl : xs.length ≤ 1073741824)
    (hR : ∀ w', Below w.heap.size w w' → R (.returned (.bool true)) w') :
    Calls Tryz.prog 61 #[.slice A xs.length c, v, .agg #[.string s.key, .string s.val]] w R := by
  obtain ⟨A2, d, rfl, _, _⟩ := hx.form
  have hyl : ys.length = xs.length + 80 := by rw [hys]; simp
  have hmc : xs.length + 80 ≤ c := by
    obtain ⟨A', c', e, h1, _⟩ := hy.form
    simp only [Value.slice.injEq] at e
    omega
  have HR := Lib.hid hR
  have HOK := Lib.hid hok
  have HOK2 := Lib.hid hok2
  have HX := Lib.hid hx
  have HY := Lib.hid hy
  have HYS := Lib.hid hys
  have HYL := Lib.hid hyl
  obtain ⟨w1, hw1⟩ : ∃ w1, w1 = w.alloc (.cells #[.string s.key, .string s.val] 118) := ⟨_, rfl⟩
  have HB1 := Lib.hid (show Below w.heap.size w w1 by rw [hw1]; exact Below.alloc (Below.refl _ _) (Nat.le_refl _) _)
  have o1 : w1.heap[w.heap.size]? = some (.cells #[.string s.key, .string s.val] 118 (0, 0)) := by rw [hw1]; exact heap_alloc_new w _
  have HO1 := Lib.hid o1
  have z1 : w.heap.size < w1.heap.size := (Array.getElem?_eq_some_iff.1 o1).1
  clear hR hok hok2 hx hy hys hyl o1
  go_enter Tryz.func61, Tryz.ntmps61
  go_upto_region 1 with fail
  rw [← hw1]
  clear hw1
  go_wp2_with fail
  go_loopw [20] (fun i wr => ∃ k : Nat, k ≤ xs.length + 80 ∧ i = .int .i64 k ∧ Below w1.heap.size w1 wr) (fun i _ => xs.length + 80 - (intOf i).toNat)
  case atStart => exact ⟨0, by omega, rfl, Below.refl _ _⟩
  case round =>
    obtain ⟨k, hk, rfl, hB⟩ := hrel
    have HB := Lib.hid hB
    have HBB := Lib.hid (HB1.out.trans (hB.mono HB1.out.size))
    clear hB
    by_cases hlt : k < xs.length + 80
    · have hky : k < ys.length := by have := HYL.out; omega
      have ob := (HB.out.block _ z1).trans HO1.out
      have q0_ : wr.cell? ⟨w.heap.size, 0, none⟩ = some (.string s.key) := cell_at ob rfl
      have q1_ : wr.cell? ⟨w.heap.size, 1, none⟩ = some (.string s.val) := cell_at ob rfl
      clear ob
      obtain ⟨b, off, c2, he, _, _, hbk, hbl, hce⟩ := (HY.out.below labOk HBB.out HOK.out).addr (by omega)
      simp only [Value.slice.injEq] at he
      obtain ⟨he, -, hec⟩ := he
      cases he
      cases hec
      obtain ⟨c0_, c1_⟩ := lab_cells hce k hky
      clear hce
      have hbw : b < w1.heap.size := Nat.lt_of_lt_of_le (HOK.out b hbk) HB1.out.size
      obtain ⟨y, hyy⟩ : ∃ y, ys[k]'hky = y := ⟨_, rfl⟩
      rw [hyy] at c0_ c1_
      have HE := Lib.hid hyy
      clear hyy
      have HB2 := Lib.hid (HB.out.trans ((Below.alloc (Below.refl _ _) (Nat.le_refl _) (.cells #[.string y.key, .string y.val] 118) : Below wr.heap.size wr _).mono HB.out.size))
      have hv : ∀ n, Below w1.heap.size w1 ((wr.alloc (.cells #[.string y.key, .string y.val] 118)).drewN n) := fun n => below_drewN HB2.out n
      have n0_ : (wr.alloc (.cells #[.string y.key, .string y.val] 118)).cell? ⟨wr.heap.size, 0, none⟩ = some (.string y.key) := cell_new rfl
      have n1_ : (wr.alloc (.cells #[.string y.key, .string y.val] 118)).cell? ⟨wr.heap.size, 1, none⟩ = some (.string y.val) := cell_new rfl
      have p0_ := cell_old q0_ (.cells #[.string y.key, .string y.val] 118)
      have p1_ := cell_old q1_ (.cells #[.string y.key, .string y.val] 118)
      by_cases hin : k < xs.length
      · have hyx : y = xs[k]'hin := by
          have h1 := HE.out
          have h2 := HYS.out
          subst h2
          rw [← h1]
          exact (roomy_at hky).1 hin
        obtain ⟨b2, off2, c2, he, _, _, hbk2, hbl2, hce⟩ := (HX.out.below labOk HBB.out HOK2.out).addr (by omega)
        simp only [Value.slice.injEq] at he
        obtain ⟨he, -, hec⟩ := he
        cases he
        cases hec
        obtain ⟨d0_, d1_⟩ := lab_cells hce k hin
        rw [← hyx] at d0_ d1_
        clear hce hyx
        have r0_ := cell_old d0_ (.cells #[.string y.key, .string y.val] 118)
        have r1_ := cell_old d1_ (.cells #[.string y.key, .string y.val] 118)
        have g1 : decide (xs.length ≤ k) = false := decide_eq_false (by omega)
        have g2 : decide ((xs.length : Int) ≤ (k : Int)) = false := decide_eq_false (by omega)
        go_wp2_with fail
        go_region
        go_wp2_with fail
        go_roundw
        case rel => exact ⟨k + 1, by omega, by go_num, by first | exact HB2.out | exact HB2.out.drew | exact HB2.out.drew.drew⟩
        case measure => simp [intOf]; omega
      · have hyx : y = s := by
          have h1 := HE.out
          have h2 := HYS.out
          subst h2
          rw [← h1]
          exact (roomy_at hky).2 hin
        subst hyx
        have g1 : decide (xs.length ≤ k) = true := decide_eq_true (by omega)
        have g2 : decide ((xs.length : Int) ≤ (k : Int)) = true := decide_eq_true (by omega)
        have g3 : decide (k < xs.length) = false := decide_eq_false hin
        go_wp2_with fail
        go_region
        go_wp2_with fail
        go_roundw
        case rel => exact ⟨k + 1, by omega, by go_num, by first | exact HB2.out | exact HB2.out.drew | exact HB2.out.drew.drew⟩
        case measure => simp [intOf]; omega
    · obtain rfl : k = xs.length + 80 := by omega
      have hv := HR.out _ HBB.out
      go_wp2_with fail
      exact hv
set_option maxRecDepth 100000 in
set_option maxHeartbeats 8000000 in
theorem keepsT_k (R : Ending → World → Prop) (w : World) (ok ok2 : Nat → Prop) (A : Option Addr) (c : Nat) (v : Value) (xs ys : List Tnt) (s : Tnt) (hok : ∀ k, ok k → k < w.heap.size) (hok2 : ∀ k, ok2 k → k < w.heap.size) (hys : ys = xs ++ List.replicate 80 s) (hy : SlK tntK 3 w ok (.slice A (xs.length + 80) c) ys) (hx : SlK tntK 3 w ok2 v xs) (hl : xs.length ≤ 1073741824)
    (hR : ∀ w', Below w.heap.size w w' → R (.returned (.bool true)) w') :
    Calls Tryz.prog 62 #[.slice A xs.length c, v, .agg #[.string s.key, .string s.val, .string s.eff]] w R := by
  obtain ⟨A2, d, rfl, _, _⟩ := hx.form
  have hyl : ys.length = xs.length + 80 := by rw [hys]; simp
  have hmc : xs.length + 80 ≤ c := by
    obtain ⟨A', c', e, h1, _⟩ := hy.form
    simp only [Value.slice.injEq] at e
    omega
  have HR := Lib.hid hR
  have HOK := Lib.hid hok
  have HOK2 := Lib.hid hok2
  have HX := Lib.hid hx
  have HY := Lib.hid hy
  have HYS := Lib.hid hys
  have HYL := Lib.hid hyl
  obtain ⟨w1, hw1⟩ : ∃ w1, w1 = w.alloc (.cells #[.string s.key, .string s.val, .string s.eff] 34) := ⟨_, rfl⟩
  have HB1 := Lib.hid (show Below w.heap.size w w1 by rw [hw1]; exact Below.alloc (Below.refl _ _) (Nat.le_refl _) _)
  have o1 : w1.heap[w.heap.size]? = some (.cells #[.string s.key, .string s.val, .string s.eff] 34 (0, 0)) := by rw [hw1]; exact heap_alloc_new w _
  have HO1 := Lib.hid o1
  have z1 : w.heap.size < w1.heap.size := (Array.getElem?_eq_some_iff.1 o1).1
  clear hR hok hok2 hx hy hys hyl o1
  go_enter Tryz.func62, Tryz.ntmps62
  go_upto_region 1 with fail
  rw [← hw1]
  clear hw1
  go_wp2_with fail
  go_loopw [20] (fun i wr => ∃ k : Nat, k ≤ xs.length + 80 ∧ i = .int .i64 k ∧ Below w1.heap.size w1 wr) (fun i _ => xs.length + 80 - (intOf i).toNat)
  case atStart => exact ⟨0, by omega, rfl, Below.refl _ _⟩
  case round =>
    obtain ⟨k, hk, rfl, hB⟩ := hrel
    have HB := Lib.hid hB
    have HBB := Lib.hid (HB1.out.trans (hB.mono HB1.out.size))
    clear hB
    by_cases hlt : k < xs.length + 80
    · have hky : k < ys.length := by have := HYL.out; omega
      have ob := (HB.out.block _ z1).trans HO1.out
      have q0_ : wr.cell? ⟨w.heap.size, 0, none⟩ = some (.string s.key) := cell_at ob rfl
      have q1_ : wr.cell? ⟨w.heap.size, 1, none⟩ = some (.string s.val) := cell_at ob rfl
      have q2_ : wr.cell? ⟨w.heap.size, 2, none⟩ = some (.string s.eff) := cell_at ob rfl
      clear ob
      obtain ⟨b, off, c2, he, _, _, hbk, hbl, hce⟩ := (HY.out.below tntOk HBB.out HOK.out).addr (by omega)
      simp only [Value.slice.injEq] at he
      obtain ⟨he, -, hec⟩ := he
      cases he
      cases hec
      obtain ⟨c0_, c1_, c2_⟩ := tnt_cellsK hce k hky
      clear hce
      have hbw : b < w1.heap.size := Nat.lt_of_lt_of_le (HOK.out b hbk) HB1.out.size
      obtain ⟨y, hyy⟩ : ∃ y, ys[k]'hky = y := ⟨_, rfl⟩
      rw [hyy] at c0_ c1_ c2_
      have HE := Lib.hid hyy
      clear hyy
      have HB2 := Lib.hid (HB.out.trans ((Below.alloc (Below.refl _ _) (Nat.le_refl _) (.cells #[.string y.key, .string y.val, .string y.eff] 34) : Below wr.heap.size wr _).mono HB.out.size))
      have hv : ∀ n, Below w1.heap.size w1 ((wr.alloc (.cells #[.string y.key, .string y.val, .string y.eff] 34)).drewN n) := fun n => below_drewN HB2.out n
      have n0_ : (wr.alloc (.cells #[.string y.key, .string y.val, .string y.eff] 34)).cell? ⟨wr.heap.size, 0, none⟩ = some (.string y.key) := cell_new rfl
      have n1_ : (wr.alloc (.cells #[.string y.key, .string y.val, .string y.eff] 34)).cell? ⟨wr.heap.size, 1, none⟩ = some (.string y.val) := cell_new rfl
      have n2_ : (wr.alloc (.cells #[.string y.key, .string y.val, .string y.eff] 34)).cell? ⟨wr.heap.size, 2, none⟩ = some (.string y.eff) := cell_new rfl
      have p0_ := cell_old q0_ (.cells #[.string y.key, .string y.val, .string y.eff] 34)
      have p1_ := cell_old q1_ (.cells #[.string y.key, .string y.val, .string y.eff] 34)
      have p2_ := cell_old q2_ (.cells #[.string y.key, .string y.val, .string y.eff] 34)
      by_cases hin : k < xs.length
      · have hyx : y = xs[k]'hin := by
          have h1 := HE.out
          have h2 := HYS.out
          subst h2
          rw [← h1]
          exact (roomy_at hky).1 hin
        obtain ⟨b2, off2, c2, he, _, _, hbk2, hbl2, hce⟩ := (HX.out.below tntOk HBB.out HOK2.out).addr (by omega)
        simp only [Value.slice.injEq] at he
        obtain ⟨he, -, hec⟩ := he
        cases he
        cases hec
        obtain ⟨d0_, d1_, d2_⟩ := tnt_cellsK hce k hin
        rw [← hyx] at d0_ d1_ d2_
        clear hce hyx
        have r0_ := cell_old d0_ (.cells #[.string y.key, .string y.val, .string y.eff] 34)
        have r1_ := cell_old d1_ (.cells #[.string y.key, .string y.val, .string y.eff] 34)
        have r2_ := cell_old d2_ (.cells #[.string y.key, .string y.val, .string y.eff] 34)
        have g1 : decide (xs.length ≤ k) = false := decide_eq_false (by omega)
        have g2 : decide ((xs.length : Int) ≤ (k : Int)) = false := decide_eq_false (by omega)
        go_wp2_with fail
        go_region
        go_wp2_with fail
        go_roundw
        case rel => exact ⟨k + 1, by omega, by go_num, by first | exact HB2.out | exact HB2.out.drew | exact HB2.out.drew.drew⟩
        case measure => simp [intOf]; omega
      · have hyx : y = s := by
          have h1 := HE.out
          have h2 := HYS.out
          subst h2
          rw [← h1]
          exact (roomy_at hky).2 hin
        subst hyx
        have g1 : decide (xs.length ≤ k) = true := decide_eq_true (by omega)
        have g2 : decide ((xs.length : Int) ≤ (k : Int)) = true := decide_eq_true (by omega)
        have g3 : decide (k < xs.length) = false := decide_eq_false hin
        go_wp2_with fail
        go_region
        go_wp2_with fail
        go_roundw
        case rel => exact ⟨k + 1, by omega, by go_num, by first | exact HB2.out | exact HB2.out.drew | exact HB2.out.drew.drew⟩
        case measure => simp [intOf]; omega
    · obtain rfl : k = xs.length + 80 := by omega
      have hv := HR.out _ HBB.out
      go_wp2_with fail
      exact hv
set_option maxRecDepth 100000 in
set_option maxHeartbeats 8000000 in
theorem keepsI_k (R : Ending → World → Prop) (w : World) (ok ok2 : Nat → Prop) (A : Option Addr) (c : Nat) (v : Value) (xs ys : List Itm) (s : Itm) (hok : ∀ k, ok k → k < w.heap.size) (hok2 : ∀ k, ok2 k → k < w.heap.size) (hys : ys = xs ++ List.replicate 80 s) (hy : SlK itmK 2 w ok (.slice A (xs.length + 80) c) ys) (hx : SlK itmK 2 w ok2 v xs) (hl : xs.length ≤ 1073741824)
    (hR : ∀ w', Below w.heap.size w w' → R (.returned (.bool true)) w') :
    Calls Tryz.prog 63 #[.slice A xs.length c, v, .agg #[.string s.name, .int .i64 s.n]] w R := by
  obtain ⟨A2, d, rfl, _, _⟩ := hx.form
  have hyl : ys.length = xs.length + 80 := by rw [hys]; simp
  have hmc : xs.length + 80 ≤ c := by
    obtain ⟨A', c', e, h1, _⟩ := hy.form
    simp only [Value.slice.injEq] at e
    omega
  have HR := Lib.hid hR
  have HOK := Lib.hid hok
  have HOK2 := Lib.hid hok2
  have HX := Lib.hid hx
  have HY := Lib.hid hy
  have HYS := Lib.hid hys
  have HYL := Lib.hid hyl
  obtain ⟨w1, hw1⟩ : ∃ w1, w1 = w.alloc (.cells #[.string s.name, .int .i64 s.n] 110) := ⟨_, rfl⟩
  have HB1 := Lib.hid (show Below w.heap.size w w1 by rw [hw1]; exact Below.alloc (Below.refl _ _) (Nat.le_refl _) _)
  have o1 : w1.heap[w.heap.size]? = some (.cells #[.string s.name, .int .i64 s.n] 110 (0, 0)) := by rw [hw1]; exact heap_alloc_new w _
  have HO1 := Lib.hid o1
  have z1 : w.heap.size < w1.heap.size := (Array.getElem?_eq_some_iff.1 o1).1
  clear hR hok hok2 hx hy hys hyl o1
  go_enter Tryz.func63, Tryz.ntmps63
  go_upto_region 1 with fail
  rw [← hw1]
  clear hw1
  go_wp2_with fail
  go_loopw [20] (fun i wr => ∃ k : Nat, k ≤ xs.length + 80 ∧ i = .int .i64 k ∧ Below w1.heap.size w1 wr) (fun i _ => xs.length + 80 - (intOf i).toNat)
  case atStart => exact ⟨0, by omega, rfl, Below.refl _ _⟩
  case round =>
    obtain ⟨k, hk, rfl, hB⟩ := hrel
    have HB := Lib.hid hB
    have HBB := Lib.hid (HB1.out.trans (hB.mono HB1.out.size))
    clear hB
    by_cases hlt : k < xs.length + 80
    · have hky : k < ys.length := by have := HYL.out; omega
      have ob := (HB.out.block _ z1).trans HO1.out
      have q0_ : wr.cell? ⟨w.heap.size, 0, none⟩ = some (.string s.name) := cell_at ob rfl
      have q1_ : wr.cell? ⟨w.heap.size, 1, none⟩ = some (.int .i64 s.n) := cell_at ob rfl
      clear ob
      obtain ⟨b, off, c2, he, _, _, hbk, hbl, hce⟩ := (HY.out.below itmOk HBB.out HOK.out).addr (by omega)
      simp only [Value.slice.injEq] at he
      obtain ⟨he, -, hec⟩ := he
      cases he
      cases hec
      obtain ⟨c0_, c1_⟩ := itm_cellsK hce k hky
      clear hce
      have hbw : b < w1.heap.size := Nat.lt_of_lt_of_le (HOK.out b hbk) HB1.out.size
      obtain ⟨y, hyy⟩ : ∃ y, ys[k]'hky = y := ⟨_, rfl⟩
      rw [hyy] at c0_ c1_
      have HE := Lib.hid hyy
      clear hyy
      have HB2 := Lib.hid (HB.out.trans ((Below.alloc (Below.refl _ _) (Nat.le_refl _) (.cells #[.string y.name, .int .i64 y.n] 110) : Below wr.heap.size wr _).mono HB.out.size))
      have hv : ∀ n, Below w1.heap.size w1 ((wr.alloc (.cells #[.string y.name, .int .i64 y.n] 110)).drewN n) := fun n => below_drewN HB2.out n
      have n0_ : (wr.alloc (.cells #[.string y.name, .int .i64 y.n] 110)).cell? ⟨wr.heap.size, 0, none⟩ = some (.string y.name) := cell_new rfl
      have n1_ : (wr.alloc (.cells #[.string y.name, .int .i64 y.n] 110)).cell? ⟨wr.heap.size, 1, none⟩ = some (.int .i64 y.n) := cell_new rfl
      have p0_ := cell_old q0_ (.cells #[.string y.name, .int .i64 y.n] 110)
      have p1_ := cell_old q1_ (.cells #[.string y.name, .int .i64 y.n] 110)
      by_cases hin : k < xs.length
      · have hyx : y = xs[k]'hin := by
          have h1 := HE.out
          have h2 := HYS.out
          subst h2
          rw [← h1]
          exact (roomy_at hky).1 hin
        obtain ⟨b2, off2, c2, he, _, _, hbk2, hbl2, hce⟩ := (HX.out.below itmOk HBB.out HOK2.out).addr (by omega)
        simp only [Value.slice.injEq] at he
        obtain ⟨he, -, hec⟩ := he
        cases he
        cases hec
        obtain ⟨d0_, d1_⟩ := itm_cellsK hce k hin
        rw [← hyx] at d0_ d1_
        clear hce hyx
        have r0_ := cell_old d0_ (.cells #[.string y.name, .int .i64 y.n] 110)
        have r1_ := cell_old d1_ (.cells #[.string y.name, .int .i64 y.n] 110)
        have g1 : decide (xs.length ≤ k) = false := decide_eq_false (by omega)
        have g2 : decide ((xs.length : Int) ≤ (k : Int)) = false := decide_eq_false (by omega)
        go_wp2_with fail
        go_region
        go_wp2_with fail
        go_roundw
        case rel => exact ⟨k + 1, by omega, by go_num, by first | exact HB2.out | exact HB2.out.drew | exact HB2.out.drew.drew⟩
        case measure => simp [intOf]; omega
      · have hyx : y = s := by
          have h1 := HE.out
          have h2 := HYS.out
          subst h2
          rw [← h1]
          exact (roomy_at hky).2 hin
        subst hyx
        have g1 : decide (xs.length ≤ k) = true := decide_eq_true (by omega)
        have g2 : decide ((xs.length : Int) ≤ (k : Int)) = true := decide_eq_true (by omega)
        have g3 : decide (k < xs.length) = false := decide_eq_false hin
        go_wp2_with fail
        go_region
        go_wp2_with fail
        go_roundw
        case rel => exact ⟨k + 1, by omega, by go_num, by first | exact HB2.out | exact HB2.out.drew | exact HB2.out.drew.drew⟩
        case measure => simp [intOf]; omega
    · obtain rfl : k = xs.length + 80 := by omega
      have hv := HR.out _ HBB.out
      go_wp2_with fail
      exact hv
set_option maxRecDepth 100000 in
set_option maxHeartbeats 8000000 in
theorem keepsO_k (R : Ending → World → Prop) (w : World) (ok ok2 : Nat → Prop) (A : Option Addr) (c : Nat) (v : Value) (xs ys : List Tol) (s : Tol) (hok : ∀ k, ok k → k < w.heap.size) (hok2 : ∀ k, ok2 k → k < w.heap.size) (hys : ys = xs ++ List.replicate 80 s) (hy : SlK tolK 4 w ok (.slice A (xs.length + 80) c) ys) (hx : SlK tolK 4 w ok2 v xs) (hl : xs.length ≤ 1073741824)
    (hR : ∀ w', Below w.heap.size w w' → R (.returned (.bool true)) w') :
    Calls Tryz.prog 64 #[.slice A xs.length c, v, .agg #[.string s.key, .string s.op, .string s.val, .string s.eff]] w R := by
  obtain ⟨A2, d, rfl, _, _⟩ := hx.form
  have hyl : ys.length = xs.length + 80 := by rw [hys]; simp
  have hmc : xs.length + 80 ≤ c := by
    obtain ⟨A', c', e, h1, _⟩ := hy.form
    simp only [Value.slice.injEq] at e
    omega
  have HR := Lib.hid hR
  have HOK := Lib.hid hok
  have HOK2 := Lib.hid hok2
  have HX := Lib.hid hx
  have HY := Lib.hid hy
  have HYS := Lib.hid hys
  have HYL := Lib.hid hyl
  obtain ⟨w1, hw1⟩ : ∃ w1, w1 = w.alloc (.cells #[.string s.key, .string s.op, .string s.val, .string s.eff] 123) := ⟨_, rfl⟩
  have HB1 := Lib.hid (show Below w.heap.size w w1 by rw [hw1]; exact Below.alloc (Below.refl _ _) (Nat.le_refl _) _)
  have o1 : w1.heap[w.heap.size]? = some (.cells #[.string s.key, .string s.op, .string s.val, .string s.eff] 123 (0, 0)) := by rw [hw1]; exact heap_alloc_new w _
  have HO1 := Lib.hid o1
  have z1 : w.heap.size < w1.heap.size := (Array.getElem?_eq_some_iff.1 o1).1
  clear hR hok hok2 hx hy hys hyl o1
  go_enter Tryz.func64, Tryz.ntmps64
  go_upto_region 1 with fail
  rw [← hw1]
  clear hw1
  go_wp2_with fail
  go_loopw [20] (fun i wr => ∃ k : Nat, k ≤ xs.length + 80 ∧ i = .int .i64 k ∧ Below w1.heap.size w1 wr) (fun i _ => xs.length + 80 - (intOf i).toNat)
  case atStart => exact ⟨0, by omega, rfl, Below.refl _ _⟩
  case round =>
    obtain ⟨k, hk, rfl, hB⟩ := hrel
    have HB := Lib.hid hB
    have HBB := Lib.hid (HB1.out.trans (hB.mono HB1.out.size))
    clear hB
    by_cases hlt : k < xs.length + 80
    · have hky : k < ys.length := by have := HYL.out; omega
      have ob := (HB.out.block _ z1).trans HO1.out
      have q0_ : wr.cell? ⟨w.heap.size, 0, none⟩ = some (.string s.key) := cell_at ob rfl
      have q1_ : wr.cell? ⟨w.heap.size, 1, none⟩ = some (.string s.op) := cell_at ob rfl
      have q2_ : wr.cell? ⟨w.heap.size, 2, none⟩ = some (.string s.val) := cell_at ob rfl
      have q3_ : wr.cell? ⟨w.heap.size, 3, none⟩ = some (.string s.eff) := cell_at ob rfl
      clear ob
      obtain ⟨b, off, c2, he, _, _, hbk, hbl, hce⟩ := (HY.out.below tolOk HBB.out HOK.out).addr (by omega)
      simp only [Value.slice.injEq] at he
      obtain ⟨he, -, hec⟩ := he
      cases he
      cases hec
      obtain ⟨c0_, c1_, c2_, c3_⟩ := tol_cellsK hce k hky
      clear hce
      have hbw : b < w1.heap.size := Nat.lt_of_lt_of_le (HOK.out b hbk) HB1.out.size
      obtain ⟨y, hyy⟩ : ∃ y, ys[k]'hky = y := ⟨_, rfl⟩
      rw [hyy] at c0_ c1_ c2_ c3_
      have HE := Lib.hid hyy
      clear hyy
      have HB2 := Lib.hid (HB.out.trans ((Below.alloc (Below.refl _ _) (Nat.le_refl _) (.cells #[.string y.key, .string y.op, .string y.val, .string y.eff] 123) : Below wr.heap.size wr _).mono HB.out.size))
      have hv : ∀ n, Below w1.heap.size w1 ((wr.alloc (.cells #[.string y.key, .string y.op, .string y.val, .string y.eff] 123)).drewN n) := fun n => below_drewN HB2.out n
      have n0_ : (wr.alloc (.cells #[.string y.key, .string y.op, .string y.val, .string y.eff] 123)).cell? ⟨wr.heap.size, 0, none⟩ = some (.string y.key) := cell_new rfl
      have n1_ : (wr.alloc (.cells #[.string y.key, .string y.op, .string y.val, .string y.eff] 123)).cell? ⟨wr.heap.size, 1, none⟩ = some (.string y.op) := cell_new rfl
      have n2_ : (wr.alloc (.cells #[.string y.key, .string y.op, .string y.val, .string y.eff] 123)).cell? ⟨wr.heap.size, 2, none⟩ = some (.string y.val) := cell_new rfl
      have n3_ : (wr.alloc (.cells #[.string y.key, .string y.op, .string y.val, .string y.eff] 123)).cell? ⟨wr.heap.size, 3, none⟩ = some (.string y.eff) := cell_new rfl
      have p0_ := cell_old q0_ (.cells #[.string y.key, .string y.op, .string y.val, .string y.eff] 123)
      have p1_ := cell_old q1_ (.cells #[.string y.key, .string y.op, .string y.val, .string y.eff] 123)
      have p2_ := cell_old q2_ (.cells #[.string y.key, .string y.op, .string y.val, .string y.eff] 123)
      have p3_ := cell_old q3_ (.cells #[.string y.key, .string y.op, .string y.val, .string y.eff] 123)
      by_cases hin : k < xs.length
      · have hyx : y = xs[k]'hin := by
          have h1 := HE.out
          have h2 := HYS.out
          subst h2
          rw [← h1]
          exact (roomy_at hky).1 hin
        obtain ⟨b2, off2, c2, he, _, _, hbk2, hbl2, hce⟩ := (HX.out.below tolOk HBB.out HOK2.out).addr (by omega)
        simp only [Value.slice.injEq] at he
        obtain ⟨he, -, hec⟩ := he
        cases he
        cases hec
        obtain ⟨d0_, d1_, d2_, d3_⟩ := tol_cellsK hce k hin
        rw [← hyx] at d0_ d1_ d2_ d3_
        clear hce hyx
        have r0_ := cell_old d0_ (.cells #[.string y.key, .string y.op, .string y.val, .string y.eff] 123)
        have r1_ := cell_old d1_ (.cells #[.string y.key, .string y.op, .string y.val, .string y.eff] 123)
        have r2_ := cell_old d2_ (.cells #[.string y.key, .string y.op, .string y.val, .string y.eff] 123)
        have r3_ := cell_old d3_ (.cells #[.string y.key, .string y.op, .string y.val, .string y.eff] 123)
        have g1 : decide (xs.length ≤ k) = false := decide_eq_false (by omega)
        have g2 : decide ((xs.length : Int) ≤ (k : Int)) = false := decide_eq_false (by omega)
        go_wp2_with fail
        go_region
        go_wp2_with fail
        go_roundw
        case rel => exact ⟨k + 1, by omega, by go_num, by first | exact HB2.out | exact HB2.out.drew | exact HB2.out.drew.drew⟩
        case measure => simp [intOf]; omega
      · have hyx : y = s := by
          have h1 := HE.out
          have h2 := HYS.out
          subst h2
          rw [← h1]
          exact (roomy_at hky).2 hin
        subst hyx
        have g1 : decide (xs.length ≤ k) = true := decide_eq_true (by omega)
        have g2 : decide ((xs.length : Int) ≤ (k : Int)) = true := decide_eq_true (by omega)
        have g3 : decide (k < xs.length) = false := decide_eq_false hin
        go_wp2_with fail
        go_region
        go_wp2_with fail
        go_roundw
        case rel => exact ⟨k + 1, by omega, by go_num, by first | exact HB2.out | exact HB2.out.drew | exact HB2.out.drew.drew⟩
        case measure => simp [intOf]; omega
    · obtain rfl : k = xs.length + 80 := by omega
      have hv := HR.out _ HBB.out
      go_wp2_with fail
      exact hv
set_option maxRecDepth 100000 in
set_option maxHeartbeats 8000000 in
theorem keepsA_k (R : Ending → World → Prop) (w : World) (ok ok2 : Nat → Prop) (A : Option Addr) (c : Nat) (v : Value) (xs ys : List Apt) (s : Apt) (hok : ∀ k, ok k → k < w.heap.size) (hok2 : ∀ k, ok2 k → k < w.heap.size) (hys : ys = xs ++ List.replicate 80 s) (hy : SlK aptK 2 w ok (.slice A (xs.length + 80) c) ys) (hx : SlK aptK 2 w ok2 v xs) (hl : xs.length ≤ 1073741824)
    (hR : ∀ w', Below w.heap.size w w' → R (.returned (.bool true)) w') :
    Calls Tryz.prog 65 #[.slice A xs.length c, v, .agg #[.string s.topo, .string s.sel]] w R := by
  obtain ⟨A2, d, rfl, _, _⟩ := hx.form
  have hyl : ys.length = xs.length + 80 := by rw [hys]; simp
  have hmc : xs.length + 80 ≤ c := by
    obtain ⟨A', c', e, h1, _⟩ := hy.form
    simp only [Value.slice.injEq] at e
    omega
  have HR := Lib.hid hR
  have HOK := Lib.hid hok
  have HOK2 := Lib.hid hok2
  have HX := Lib.hid hx
  have HY := Lib.hid hy
  have HYS := Lib.hid hys
  have HYL := Lib.hid hyl
  obtain ⟨w1, hw1⟩ : ∃ w1, w1 = w.alloc (.cells #[.string s.topo, .string s.sel] 126) := ⟨_, rfl⟩
  have HB1 := Lib.hid (show Below w.heap.size w w1 by rw [hw1]; exact Below.alloc (Below.refl _ _) (Nat.le_refl _) _)
  have o1 : w1.heap[w.heap.size]? = some (.cells #[.string s.topo, .string s.sel] 126 (0, 0)) := by rw [hw1]; exact heap_alloc_new w _
  have HO1 := Lib.hid o1
  have z1 : w.heap.size < w1.heap.size := (Array.getElem?_eq_some_iff.1 o1).1
  clear hR hok hok2 hx hy hys hyl o1
  go_enter Tryz.func65, Tryz.ntmps65
  go_upto_region 1 with fail
  rw [← hw1]
  clear hw1
  go_wp2_with fail
  go_loopw [20] (fun i wr => ∃ k : Nat, k ≤ xs.length + 80 ∧ i = .int .i64 k ∧ Below w1.heap.size w1 wr) (fun i _ => xs.length + 80 - (intOf i).toNat)
  case atStart => exact ⟨0, by omega, rfl, Below.refl _ _⟩
  case round =>
    obtain ⟨k, hk, rfl, hB⟩ := hrel
    have HB := Lib.hid hB
    have HBB := Lib.hid (HB1.out.trans (hB.mono HB1.out.size))
    clear hB
    by_cases hlt : k < xs.length + 80
    · have hky : k < ys.length := by have := HYL.out; omega
      have ob := (HB.out.block _ z1).trans HO1.out
      have q0_ : wr.cell? ⟨w.heap.size, 0, none⟩ = some (.string s.topo) := cell_at ob rfl
      have q1_ : wr.cell? ⟨w.heap.size, 1, none⟩ = some (.string s.sel) := cell_at ob rfl
      clear ob
      obtain ⟨b, off, c2, he, _, _, hbk, hbl, hce⟩ := (HY.out.below aptOk HBB.out HOK.out).addr (by omega)
      simp only [Value.slice.injEq] at he
      obtain ⟨he, -, hec⟩ := he
      cases he
      cases hec
      obtain ⟨c0_, c1_⟩ := apt_cellsK hce k hky
      clear hce
      have hbw : b < w1.heap.size := Nat.lt_of_lt_of_le (HOK.out b hbk) HB1.out.size
      obtain ⟨y, hyy⟩ : ∃ y, ys[k]'hky = y := ⟨_, rfl⟩
      rw [hyy] at c0_ c1_
      have HE := Lib.hid hyy
      clear hyy
      have HB2 := Lib.hid (HB.out.trans ((Below.alloc (Below.refl _ _) (Nat.le_refl _) (.cells #[.string y.topo, .string y.sel] 126) : Below wr.heap.size wr _).mono HB.out.size))
      have hv : ∀ n, Below w1.heap.size w1 ((wr.alloc (.cells #[.string y.topo, .string y.sel] 126)).drewN n) := fun n => below_drewN HB2.out n
      have n0_ : (wr.alloc (.cells #[.string y.topo, .string y.sel] 126)).cell? ⟨wr.heap.size, 0, none⟩ = some (.string y.topo) := cell_new rfl
      have n1_ : (wr.alloc (.cells #[.string y.topo, .string y.sel] 126)).cell? ⟨wr.heap.size, 1, none⟩ = some (.string y.sel) := cell_new rfl
      have p0_ := cell_old q0_ (.cells #[.string y.topo, .string y.sel] 126)
      have p1_ := cell_old q1_ (.cells #[.string y.topo, .string y.sel] 126)
      by_cases hin : k < xs.length
      · have hyx : y = xs[k]'hin := by
          have h1 := HE.out
          have h2 := HYS.out
          subst h2
          rw [← h1]
          exact (roomy_at hky).1 hin
        obtain ⟨b2, off2, c2, he, _, _, hbk2, hbl2, hce⟩ := (HX.out.below aptOk HBB.out HOK2.out).addr (by omega)
        simp only [Value.slice.injEq] at he
        obtain ⟨he, -, hec⟩ := he
        cases he
        cases hec
        obtain ⟨d0_, d1_⟩ := apt_cellsK hce k hin
        rw [← hyx] at d0_ d1_
        clear hce hyx
        have r0_ := cell_old d0_ (.cells #[.string y.topo, .string y.sel] 126)
        have r1_ := cell_old d1_ (.cells #[.string y.topo, .string y.sel] 126)
        have g1 : decide (xs.length ≤ k) = false := decide_eq_false (by omega)
        have g2 : decide ((xs.length : Int) ≤ (k : Int)) = false := decide_eq_false (by omega)
        go_wp2_with fail
        go_region
        go_wp2_with fail
        go_roundw
        case rel => exact ⟨k + 1, by omega, by go_num, by first | exact HB2.out | exact HB2.out.drew | exact HB2.out.drew.drew⟩
        case measure => simp [intOf]; omega
      · have hyx : y = s := by
          have h1 := HE.out
          have h2 := HYS.out
          subst h2
          rw [← h1]
          exact (roomy_at hky).2 hin
        subst hyx
        have g1 : decide (xs.length ≤ k) = true := decide_eq_true (by omega)
        have g2 : decide ((xs.length : Int) ≤ (k : Int)) = true := decide_eq_true (by omega)
        have g3 : decide (k < xs.length) = false := decide_eq_false hin
        go_wp2_with fail
        go_region
        go_wp2_with fail
        go_roundw
        case rel => exact ⟨k + 1, by omega, by go_num, by first | exact HB2.out | exact HB2.out.drew | exact HB2.out.drew.drew⟩
        case measure => simp [intOf]; omega
    · obtain rfl : k = xs.length + 80 := by omega
      have hv := HR.out _ HBB.out
      go_wp2_with fail
      exact hv
set_option maxRecDepth 100000 in
set_option maxHeartbeats 8000000 in
theorem keepsP_k (R : Ending → World → Prop) (w : World) (ok ok2 : Nat → Prop) (A : Option Addr) (c : Nat) (v : Value) (xs ys : List Prf) (s : Prf) (hok : ∀ k, ok k → k < w.heap.size) (hok2 : ∀ k, ok2 k → k < w.heap.size) (hys : ys = xs ++ List.replicate 80 s) (hy : SlK prfK 2 w ok (.slice A (xs.length + 80) c) ys) (hx : SlK prfK 2 w ok2 v xs) (hl : xs.length ≤ 1073741824)
    (hR : ∀ w', Below w.heap.size w w' → R (.returned (.bool true)) w') :
    Calls Tryz.prog 66 #[.slice A xs.length c, v, .agg #[.int .i64 s.weight, .string s.text]] w R := by
  obtain ⟨A2, d, rfl, _, _⟩ := hx.form
  have hyl : ys.length = xs.length + 80 := by rw [hys]; simp
  have hmc : xs.length + 80 ≤ c := by
    obtain ⟨A', c', e, h1, _⟩ := hy.form
    simp only [Value.slice.injEq] at e
    omega
  have HR := Lib.hid hR
  have HOK := Lib.hid hok
  have HOK2 := Lib.hid hok2
  have HX := Lib.hid hx
  have HY := Lib.hid hy
  have HYS := Lib.hid hys
  have HYL := Lib.hid hyl
  obtain ⟨w1, hw1⟩ : ∃ w1, w1 = w.alloc (.cells #[.int .i64 s.weight, .string s.text] 129) := ⟨_, rfl⟩
  have HB1 := Lib.hid (show Below w.heap.size w w1 by rw [hw1]; exact Below.alloc (Below.refl _ _) (Nat.le_refl _) _)
  have o1 : w1.heap[w.heap.size]? = some (.cells #[.int .i64 s.weight, .string s.text] 129 (0, 0)) := by rw [hw1]; exact heap_alloc_new w _
  have HO1 := Lib.hid o1
  have z1 : w.heap.size < w1.heap.size := (Array.getElem?_eq_some_iff.1 o1).1
  clear hR hok hok2 hx hy hys hyl o1
  go_enter Tryz.func66, Tryz.ntmps66
  go_upto_region 1 with fail
  rw [← hw1]
  clear hw1
  go_wp2_with fail
  go_loopw [20] (fun i wr => ∃ k : Nat, k ≤ xs.length + 80 ∧ i = .int .i64 k ∧ Below w1.heap.size w1 wr) (fun i _ => xs.length + 80 - (intOf i).toNat)
  case atStart => exact ⟨0, by omega, rfl, Below.refl _ _⟩
  case round =>
    obtain ⟨k, hk, rfl, hB⟩ := hrel
    have HB := Lib.hid hB
    have HBB := Lib.hid (HB1.out.trans (hB.mono HB1.out.size))
    clear hB
    by_cases hlt : k < xs.length + 80
    · have hky : k < ys.length := by have := HYL.out; omega
      have ob := (HB.out.block _ z1).trans HO1.out
      have q0_ : wr.cell? ⟨w.heap.size, 0, none⟩ = some (.int .i64 s.weight) := cell_at ob rfl
      have q1_ : wr.cell? ⟨w.heap.size, 1, none⟩ = some (.string s.text) := cell_at ob rfl
      clear ob
      obtain ⟨b, off, c2, he, _, _, hbk, hbl, hce⟩ := (HY.out.below prfOk HBB.out HOK.out).addr (by omega)
      simp only [Value.slice.injEq] at he
      obtain ⟨he, -, hec⟩ := he
      cases he
      cases hec
      obtain ⟨c0_, c1_⟩ := prf_cellsK hce k hky
      clear hce
      have hbw : b < w1.heap.size := Nat.lt_of_lt_of_le (HOK.out b hbk) HB1.out.size
      obtain ⟨y, hyy⟩ : ∃ y, ys[k]'hky = y := ⟨_, rfl⟩
      rw [hyy] at c0_ c1_
      have HE := Lib.hid hyy
      clear hyy
      have HB2 := Lib.hid (HB.out.trans ((Below.alloc (Below.refl _ _) (Nat.le_refl _) (.cells #[.int .i64 y.weight, .string y.text] 129) : Below wr.heap.size wr _).mono HB.out.size))
      have hv : ∀ n, Below w1.heap.size w1 ((wr.alloc (.cells #[.int .i64 y.weight, .string y.text] 129)).drewN n) := fun n => below_drewN HB2.out n
      have n0_ : (wr.alloc (.cells #[.int .i64 y.weight, .string y.text] 129)).cell? ⟨wr.heap.size, 0, none⟩ = some (.int .i64 y.weight) := cell_new rfl
      have n1_ : (wr.alloc (.cells #[.int .i64 y.weight, .string y.text] 129)).cell? ⟨wr.heap.size, 1, none⟩ = some (.string y.text) := cell_new rfl
      have p0_ := cell_old q0_ (.cells #[.int .i64 y.weight, .string y.text] 129)
      have p1_ := cell_old q1_ (.cells #[.int .i64 y.weight, .string y.text] 129)
      by_cases hin : k < xs.length
      · have hyx : y = xs[k]'hin := by
          have h1 := HE.out
          have h2 := HYS.out
          subst h2
          rw [← h1]
          exact (roomy_at hky).1 hin
        obtain ⟨b2, off2, c2, he, _, _, hbk2, hbl2, hce⟩ := (HX.out.below prfOk HBB.out HOK2.out).addr (by omega)
        simp only [Value.slice.injEq] at he
        obtain ⟨he, -, hec⟩ := he
        cases he
        cases hec
        obtain ⟨d0_, d1_⟩ := prf_cellsK hce k hin
        rw [← hyx] at d0_ d1_
        clear hce hyx
        have r0_ := cell_old d0_ (.cells #[.int .i64 y.weight, .string y.text] 129)
        have r1_ := cell_old d1_ (.cells #[.int .i64 y.weight, .string y.text] 129)
        have g1 : decide (xs.length ≤ k) = false := decide_eq_false (by omega)
        have g2 : decide ((xs.length : Int) ≤ (k : Int)) = false := decide_eq_false (by omega)
        go_wp2_with fail
        go_region
        go_wp2_with fail
        go_roundw
        case rel => exact ⟨k + 1, by omega, by go_num, by first | exact HB2.out | exact HB2.out.drew | exact HB2.out.drew.drew⟩
        case measure => simp [intOf]; omega
      · have hyx : y = s := by
          have h1 := HE.out
          have h2 := HYS.out
          subst h2
          rw [← h1]
          exact (roomy_at hky).2 hin
        subst hyx
        have g1 : decide (xs.length ≤ k) = true := decide_eq_true (by omega)
        have g2 : decide ((xs.length : Int) ≤ (k : Int)) = true := decide_eq_true (by omega)
        have g3 : decide (k < xs.length) = false := decide_eq_false hin
        go_wp2_with fail
        go_region
        go_wp2_with fail
        go_roundw
        case rel => exact ⟨k + 1, by omega, by go_num, by first | exact HB2.out | exact HB2.out.drew | exact HB2.out.drew.drew⟩
        case measure => simp [intOf]; omega
    · obtain rfl : k = xs.length + 80 := by omega
      have hv := HR.out _ HBB.out
      go_wp2_with fail
      exact hv
end Go.Proofs.YtdceflgemhcgcaaGreatDoor

namespace Go.Proofs.YtdceflgemhcgcaaGreatDoor
open Go.RowKit Go.BigFrame

/-- A node's lists, a pod's lists: their room. -/
def nodV (w : World) (X : Nat → Prop) (x : Nod) (cs : List Value) : Prop := ∃ vl vt vc, cs = [.string x.name, vl, vt, vc, .bool x.cord] ∧ RoomV 2 X w vl x.labels.length ∧ RoomV 3 X w vt x.taints.length ∧ RoomV 2 X w vc x.cap.length
def pdV (w : World) (X : Nat → Prop) (x : Pd) (cs : List Value) : Prop := ∃ vl vn vt va vp, cs = [.string x.name, vl, vn, vt, .string x.req, va, vp, .int .i64 x.prio] ∧ RoomV 2 X w vl x.labels.length ∧ RoomV 2 X w vn x.needs.length ∧ RoomV 4 X w vt x.tols.length ∧ RoomV 2 X w va x.apart.length ∧ RoomV 2 X w vp x.prefer.length
theorem nodR.v {w : World} {X : Nat → Prop} {x : Nod} {cs : List Value} : nodR w X x cs → nodV w X x cs := fun ⟨a, b, c, h, h1, h2, h3⟩ => ⟨a, b, c, h, h1.2, h2.2, h3.2⟩
theorem pdR.v {w : World} {X : Nat → Prop} {x : Pd} {cs : List Value} : pdR w X x cs → pdV w X x cs := fun ⟨a, b, c, d, e, h, h1, h2, h3, h4, h5⟩ => ⟨a, b, c, d, e, h, h1.2, h2.2, h3.2, h4.2, h5.2⟩
theorem nodV.th {w w' : World} {X : Nat → Prop} {x : Nod} {cs : List Value} (ht : Th w w') (hs : w.heap.size ≤ w'.heap.size) : nodV w X x cs → nodV w' X x cs := fun ⟨a, b, c, h, h1, h2, h3⟩ => ⟨a, b, c, h, h1.th ht hs, h2.th ht hs, h3.th ht hs⟩
theorem pdV.th {w w' : World} {X : Nat → Prop} {x : Pd} {cs : List Value} (ht : Th w w') (hs : w.heap.size ≤ w'.heap.size) : pdV w X x cs → pdV w' X x cs := fun ⟨a, b, c, d, e, h, h1, h2, h3, h4, h5⟩ => ⟨a, b, c, d, e, h, h1.th ht hs, h2.th ht hs, h3.th ht hs, h4.th ht hs, h5.th ht hs⟩
theorem nodV.move {w w' : World} {X Y : Nat → Prop} {x : Nod} {cs : List Value} (hm : ∀ k, X k → k < w.heap.size → w'.heap[k]? = w.heap[k]?) (hXY : ∀ k, X k → Y k) (hs : w.heap.size ≤ w'.heap.size) : nodV w X x cs → nodV w' Y x cs := fun ⟨a, b, c, h, h1, h2, h3⟩ => ⟨a, b, c, h, h1.move hm hXY hs, h2.move hm hXY hs, h3.move hm hXY hs⟩
theorem pdV.move {w w' : World} {X Y : Nat → Prop} {x : Pd} {cs : List Value} (hm : ∀ k, X k → k < w.heap.size → w'.heap[k]? = w.heap[k]?) (hXY : ∀ k, X k → Y k) (hs : w.heap.size ≤ w'.heap.size) : pdV w X x cs → pdV w' Y x cs := fun ⟨a, b, c, d, e, h, h1, h2, h3, h4, h5⟩ => ⟨a, b, c, d, e, h, h1.move hm hXY hs, h2.move hm hXY hs, h3.move hm hXY hs, h4.move hm hXY hs, h5.move hm hXY hs⟩
theorem nodV.bnd {w : World} {X : Nat → Prop} {x : Nod} {cs : List Value} : nodV w X x cs → nodV w (fun k => X k ∧ k < w.heap.size) x cs := fun ⟨a, b, c, h, h1, h2, h3⟩ => ⟨a, b, c, h, h1.bnd, h2.bnd, h3.bnd⟩
theorem pdV.bnd {w : World} {X : Nat → Prop} {x : Pd} {cs : List Value} : pdV w X x cs → pdV w (fun k => X k ∧ k < w.heap.size) x cs := fun ⟨a, b, c, d, e, h, h1, h2, h3, h4, h5⟩ => ⟨a, b, c, d, e, h, h1.bnd, h2.bnd, h3.bnd, h4.bnd, h5.bnd⟩

set_option maxRecDepth 100000 in
set_option maxHeartbeats 8000000 in
theorem wipeNode_k (R : Ending → World → Prop) (w : World) (X : Nat → Prop) (x : Nod) (cs : List Value) (hX : ∀ k, X k → k < w.heap.size) (hx : nodV w X x cs) (hs : NodShort x)
    (hR : ∀ w', Mod X w w' → Th w w' → R (.returned (.tuple #[])) w') :
    Calls Tryz.prog 13 #[.agg cs.toArray] w R := by
  obtain ⟨vl, vt, vc, rfl, hl, ht, hc⟩ := hx
  obtain ⟨s0, s1, s2⟩ := hs
  obtain ⟨A0, d0, rfl, _, _, _⟩ := id hl
  obtain ⟨A1, d1, rfl, _, _, _⟩ := id ht
  obtain ⟨A2, d2, rfl, _, _, _⟩ := id hc
  have HR := Lib.hid hR
  have HXX := Lib.hid hX
  obtain ⟨w0, hw0⟩ : ∃ w0, w0 = w.alloc (.cells #[.string x.name, .slice A0 x.labels.length d0, .slice A1 x.taints.length d1, .slice A2 x.cap.length d2, .bool x.cord] 26) := ⟨_, rfl⟩
  have o0 : w0.heap[w.heap.size]? = some (.cells #[.string x.name, .slice A0 x.labels.length d0, .slice A1 x.taints.length d1, .slice A2 x.cap.length d2, .bool x.cord] 26 (0, 0)) := by rw [hw0]; exact heap_alloc_new w _
  have HO := Lib.hid o0
  have z0 : w.heap.size < w0.heap.size := (Array.getElem?_eq_some_iff.1 o0).1
  have nX : ¬ X w.heap.size := fun e => by have := HXX.out _ e; omega
  have HM0 := Lib.hid (show Mod X w w0 by rw [hw0]; exact (Mod.refl X w).alloc _)
  have HT0 := Lib.hid (show Th w w0 by rw [hw0]; exact (Th.refl w).alloc _)
  have HR0 := Lib.hid hl
  have HR1 := Lib.hid ht
  have HR2 := Lib.hid hc
  clear hR hX hl ht hc
  go_enter Tryz.func13, Tryz.ntmps13
  go_upto_region 1 with fail
  rw [← hw0]
  clear hw0 o0
  have o0 := HO.out
  have c0_0 : w0.cell? ⟨w.heap.size, 0, none⟩ = some (.string x.name) := cell_at o0 rfl
  have c0_1 : w0.cell? ⟨w.heap.size, 1, none⟩ = some (.slice A0 x.labels.length d0) := cell_at o0 rfl
  have c0_2 : w0.cell? ⟨w.heap.size, 2, none⟩ = some (.slice A1 x.taints.length d1) := cell_at o0 rfl
  have c0_3 : w0.cell? ⟨w.heap.size, 3, none⟩ = some (.slice A2 x.cap.length d2) := cell_at o0 rfl
  have c0_4 : w0.cell? ⟨w.heap.size, 4, none⟩ = some (.bool x.cord) := cell_at o0 rfl
  have rr := (HR0.out.th HT0.out HM0.out.size)
  go_wp2_with fail
  refine wipeL_k _ _ X _ _ rr (fun k hk => Nat.lt_of_lt_of_le (HXX.out k hk) HM0.out.size) s0 ⟨⟨#[63]⟩, ⟨#[63]⟩⟩ ?_
  intro w1 m1 t1
  have HM1 := Lib.hid (HM0.out.trans m1 (fun _ _ h => h))
  have HN1 := Lib.hid (m1 : Mod X w0 w1)
  have HT1 := Lib.hid (HT0.out.trans t1)
  clear m1 t1 rr o0 c0_0 c0_1 c0_2 c0_3 c0_4
  have o1 := (HN1.out.block _ z0 nX).trans HO.out
  have c1_0 : w1.cell? ⟨w.heap.size, 0, none⟩ = some (.string x.name) := cell_at o1 rfl
  have c1_1 : w1.cell? ⟨w.heap.size, 1, none⟩ = some (.slice A0 x.labels.length d0) := cell_at o1 rfl
  have c1_2 : w1.cell? ⟨w.heap.size, 2, none⟩ = some (.slice A1 x.taints.length d1) := cell_at o1 rfl
  have c1_3 : w1.cell? ⟨w.heap.size, 3, none⟩ = some (.slice A2 x.cap.length d2) := cell_at o1 rfl
  have c1_4 : w1.cell? ⟨w.heap.size, 4, none⟩ = some (.bool x.cord) := cell_at o1 rfl
  have rr := (HR1.out.th HT1.out HM1.out.size)
  go_wp2_with fail
  refine wipeT_k _ _ X _ _ rr (fun k hk => Nat.lt_of_lt_of_le (HXX.out k hk) HM1.out.size) s1 ⟨⟨#[63]⟩, ⟨#[]⟩, ⟨#[]⟩⟩ ?_
  intro w2 m2 t2
  have HM2 := Lib.hid (HM1.out.trans m2 (fun _ _ h => h))
  have HN2 := Lib.hid (HN1.out.trans m2 (fun _ _ h => h) : Mod X w0 w2)
  have HT2 := Lib.hid (HT1.out.trans t2)
  clear m2 t2 rr o1 c1_0 c1_1 c1_2 c1_3 c1_4
  have o2 := (HN2.out.block _ z0 nX).trans HO.out
  have c2_0 : w2.cell? ⟨w.heap.size, 0, none⟩ = some (.string x.name) := cell_at o2 rfl
  have c2_1 : w2.cell? ⟨w.heap.size, 1, none⟩ = some (.slice A0 x.labels.length d0) := cell_at o2 rfl
  have c2_2 : w2.cell? ⟨w.heap.size, 2, none⟩ = some (.slice A1 x.taints.length d1) := cell_at o2 rfl
  have c2_3 : w2.cell? ⟨w.heap.size, 3, none⟩ = some (.slice A2 x.cap.length d2) := cell_at o2 rfl
  have c2_4 : w2.cell? ⟨w.heap.size, 4, none⟩ = some (.bool x.cord) := cell_at o2 rfl
  have rr := (HR2.out.th HT2.out HM2.out.size)
  go_wp2_with fail
  refine wipeI_k _ _ X _ _ rr (fun k hk => Nat.lt_of_lt_of_le (HXX.out k hk) HM2.out.size) s2 ⟨⟨#[63]⟩, -1⟩ ?_
  intro w3 m3 t3
  have HM3 := Lib.hid (HM2.out.trans m3 (fun _ _ h => h))
  have HN3 := Lib.hid (HN2.out.trans m3 (fun _ _ h => h) : Mod X w0 w3)
  have HT3 := Lib.hid (HT2.out.trans t3)
  clear m3 t3 rr o2 c2_0 c2_1 c2_2 c2_3 c2_4
  have hv := HR.out w3 HM3.out HT3.out
  go_wp2_with fail
  go_end0
  exact hv
set_option maxRecDepth 100000 in
set_option maxHeartbeats 8000000 in
theorem wipePod_k (R : Ending → World → Prop) (w : World) (X : Nat → Prop) (x : Pd) (cs : List Value) (hX : ∀ k, X k → k < w.heap.size) (hx : pdV w X x cs) (hs : PdShort x)
    (hR : ∀ w', Mod X w w' → Th w w' → R (.returned (.tuple #[])) w') :
    Calls Tryz.prog 14 #[.agg cs.toArray] w R := by
  obtain ⟨vl, vn, vt, va, vp, rfl, hl, hn, ht, ha, hp⟩ := hx
  obtain ⟨s0, s1, s2, s3, s4⟩ := hs
  obtain ⟨A0, d0, rfl, _, _, _⟩ := id hl
  obtain ⟨A1, d1, rfl, _, _, _⟩ := id hn
  obtain ⟨A2, d2, rfl, _, _, _⟩ := id ht
  obtain ⟨A3, d3, rfl, _, _, _⟩ := id ha
  obtain ⟨A4, d4, rfl, _, _, _⟩ := id hp
  have HR := Lib.hid hR
  have HXX := Lib.hid hX
  obtain ⟨w0, hw0⟩ : ∃ w0, w0 = w.alloc (.cells #[.string x.name, .slice A0 x.labels.length d0, .slice A1 x.needs.length d1, .slice A2 x.tols.length d2, .string x.req, .slice A3 x.apart.length d3, .slice A4 x.prefer.length d4, .int .i64 x.prio] 31) := ⟨_, rfl⟩
  have o0 : w0.heap[w.heap.size]? = some (.cells #[.string x.name, .slice A0 x.labels.length d0, .slice A1 x.needs.length d1, .slice A2 x.tols.length d2, .string x.req, .slice A3 x.apart.length d3, .slice A4 x.prefer.length d4, .int .i64 x.prio] 31 (0, 0)) := by rw [hw0]; exact heap_alloc_new w _
  have HO := Lib.hid o0
  have z0 : w.heap.size < w0.heap.size := (Array.getElem?_eq_some_iff.1 o0).1
  have nX : ¬ X w.heap.size := fun e => by have := HXX.out _ e; omega
  have HM0 := Lib.hid (show Mod X w w0 by rw [hw0]; exact (Mod.refl X w).alloc _)
  have HT0 := Lib.hid (show Th w w0 by rw [hw0]; exact (Th.refl w).alloc _)
  have HR0 := Lib.hid hl
  have HR1 := Lib.hid hn
  have HR2 := Lib.hid ht
  have HR3 := Lib.hid ha
  have HR4 := Lib.hid hp
  clear hR hX hl hn ht ha hp
  go_enter Tryz.func14, Tryz.ntmps14
  go_upto_region 1 with fail
  rw [← hw0]
  clear hw0 o0
  have o0 := HO.out
  have c0_0 : w0.cell? ⟨w.heap.size, 0, none⟩ = some (.string x.name) := cell_at o0 rfl
  have c0_1 : w0.cell? ⟨w.heap.size, 1, none⟩ = some (.slice A0 x.labels.length d0) := cell_at o0 rfl
  have c0_2 : w0.cell? ⟨w.heap.size, 2, none⟩ = some (.slice A1 x.needs.length d1) := cell_at o0 rfl
  have c0_3 : w0.cell? ⟨w.heap.size, 3, none⟩ = some (.slice A2 x.tols.length d2) := cell_at o0 rfl
  have c0_4 : w0.cell? ⟨w.heap.size, 4, none⟩ = some (.string x.req) := cell_at o0 rfl
  have c0_5 : w0.cell? ⟨w.heap.size, 5, none⟩ = some (.slice A3 x.apart.length d3) := cell_at o0 rfl
  have c0_6 : w0.cell? ⟨w.heap.size, 6, none⟩ = some (.slice A4 x.prefer.length d4) := cell_at o0 rfl
  have c0_7 : w0.cell? ⟨w.heap.size, 7, none⟩ = some (.int .i64 x.prio) := cell_at o0 rfl
  have rr := (HR0.out.th HT0.out HM0.out.size)
  go_wp2_with fail
  refine wipeL_k _ _ X _ _ rr (fun k hk => Nat.lt_of_lt_of_le (HXX.out k hk) HM0.out.size) s0 ⟨⟨#[63]⟩, ⟨#[63]⟩⟩ ?_
  intro w1 m1 t1
  have HM1 := Lib.hid (HM0.out.trans m1 (fun _ _ h => h))
  have HN1 := Lib.hid (m1 : Mod X w0 w1)
  have HT1 := Lib.hid (HT0.out.trans t1)
  clear m1 t1 rr o0 c0_0 c0_1 c0_2 c0_3 c0_4 c0_5 c0_6 c0_7
  have o1 := (HN1.out.block _ z0 nX).trans HO.out
  have c1_0 : w1.cell? ⟨w.heap.size, 0, none⟩ = some (.string x.name) := cell_at o1 rfl
  have c1_1 : w1.cell? ⟨w.heap.size, 1, none⟩ = some (.slice A0 x.labels.length d0) := cell_at o1 rfl
  have c1_2 : w1.cell? ⟨w.heap.size, 2, none⟩ = some (.slice A1 x.needs.length d1) := cell_at o1 rfl
  have c1_3 : w1.cell? ⟨w.heap.size, 3, none⟩ = some (.slice A2 x.tols.length d2) := cell_at o1 rfl
  have c1_4 : w1.cell? ⟨w.heap.size, 4, none⟩ = some (.string x.req) := cell_at o1 rfl
  have c1_5 : w1.cell? ⟨w.heap.size, 5, none⟩ = some (.slice A3 x.apart.length d3) := cell_at o1 rfl
  have c1_6 : w1.cell? ⟨w.heap.size, 6, none⟩ = some (.slice A4 x.prefer.length d4) := cell_at o1 rfl
  have c1_7 : w1.cell? ⟨w.heap.size, 7, none⟩ = some (.int .i64 x.prio) := cell_at o1 rfl
  have rr := (HR1.out.th HT1.out HM1.out.size)
  go_wp2_with fail
  refine wipeI_k _ _ X _ _ rr (fun k hk => Nat.lt_of_lt_of_le (HXX.out k hk) HM1.out.size) s1 ⟨⟨#[63]⟩, -1⟩ ?_
  intro w2 m2 t2
  have HM2 := Lib.hid (HM1.out.trans m2 (fun _ _ h => h))
  have HN2 := Lib.hid (HN1.out.trans m2 (fun _ _ h => h) : Mod X w0 w2)
  have HT2 := Lib.hid (HT1.out.trans t2)
  clear m2 t2 rr o1 c1_0 c1_1 c1_2 c1_3 c1_4 c1_5 c1_6 c1_7
  have o2 := (HN2.out.block _ z0 nX).trans HO.out
  have c2_0 : w2.cell? ⟨w.heap.size, 0, none⟩ = some (.string x.name) := cell_at o2 rfl
  have c2_1 : w2.cell? ⟨w.heap.size, 1, none⟩ = some (.slice A0 x.labels.length d0) := cell_at o2 rfl
  have c2_2 : w2.cell? ⟨w.heap.size, 2, none⟩ = some (.slice A1 x.needs.length d1) := cell_at o2 rfl
  have c2_3 : w2.cell? ⟨w.heap.size, 3, none⟩ = some (.slice A2 x.tols.length d2) := cell_at o2 rfl
  have c2_4 : w2.cell? ⟨w.heap.size, 4, none⟩ = some (.string x.req) := cell_at o2 rfl
  have c2_5 : w2.cell? ⟨w.heap.size, 5, none⟩ = some (.slice A3 x.apart.length d3) := cell_at o2 rfl
  have c2_6 : w2.cell? ⟨w.heap.size, 6, none⟩ = some (.slice A4 x.prefer.length d4) := cell_at o2 rfl
  have c2_7 : w2.cell? ⟨w.heap.size, 7, none⟩ = some (.int .i64 x.prio) := cell_at o2 rfl
  have rr := (HR2.out.th HT2.out HM2.out.size)
  go_wp2_with fail
  refine wipeO_k _ _ X _ _ rr (fun k hk => Nat.lt_of_lt_of_le (HXX.out k hk) HM2.out.size) s2 ⟨⟨#[63]⟩, ⟨#[]⟩, ⟨#[]⟩, ⟨#[]⟩⟩ ?_
  intro w3 m3 t3
  have HM3 := Lib.hid (HM2.out.trans m3 (fun _ _ h => h))
  have HN3 := Lib.hid (HN2.out.trans m3 (fun _ _ h => h) : Mod X w0 w3)
  have HT3 := Lib.hid (HT2.out.trans t3)
  clear m3 t3 rr o2 c2_0 c2_1 c2_2 c2_3 c2_4 c2_5 c2_6 c2_7
  have o3 := (HN3.out.block _ z0 nX).trans HO.out
  have c3_0 : w3.cell? ⟨w.heap.size, 0, none⟩ = some (.string x.name) := cell_at o3 rfl
  have c3_1 : w3.cell? ⟨w.heap.size, 1, none⟩ = some (.slice A0 x.labels.length d0) := cell_at o3 rfl
  have c3_2 : w3.cell? ⟨w.heap.size, 2, none⟩ = some (.slice A1 x.needs.length d1) := cell_at o3 rfl
  have c3_3 : w3.cell? ⟨w.heap.size, 3, none⟩ = some (.slice A2 x.tols.length d2) := cell_at o3 rfl
  have c3_4 : w3.cell? ⟨w.heap.size, 4, none⟩ = some (.string x.req) := cell_at o3 rfl
  have c3_5 : w3.cell? ⟨w.heap.size, 5, none⟩ = some (.slice A3 x.apart.length d3) := cell_at o3 rfl
  have c3_6 : w3.cell? ⟨w.heap.size, 6, none⟩ = some (.slice A4 x.prefer.length d4) := cell_at o3 rfl
  have c3_7 : w3.cell? ⟨w.heap.size, 7, none⟩ = some (.int .i64 x.prio) := cell_at o3 rfl
  have rr := (HR3.out.th HT3.out HM3.out.size)
  go_wp2_with fail
  refine wipeA_k _ _ X _ _ rr (fun k hk => Nat.lt_of_lt_of_le (HXX.out k hk) HM3.out.size) s3 ⟨⟨#[63]⟩, ⟨#[]⟩⟩ ?_
  intro w4 m4 t4
  have HM4 := Lib.hid (HM3.out.trans m4 (fun _ _ h => h))
  have HN4 := Lib.hid (HN3.out.trans m4 (fun _ _ h => h) : Mod X w0 w4)
  have HT4 := Lib.hid (HT3.out.trans t4)
  clear m4 t4 rr o3 c3_0 c3_1 c3_2 c3_3 c3_4 c3_5 c3_6 c3_7
  have o4 := (HN4.out.block _ z0 nX).trans HO.out
  have c4_0 : w4.cell? ⟨w.heap.size, 0, none⟩ = some (.string x.name) := cell_at o4 rfl
  have c4_1 : w4.cell? ⟨w.heap.size, 1, none⟩ = some (.slice A0 x.labels.length d0) := cell_at o4 rfl
  have c4_2 : w4.cell? ⟨w.heap.size, 2, none⟩ = some (.slice A1 x.needs.length d1) := cell_at o4 rfl
  have c4_3 : w4.cell? ⟨w.heap.size, 3, none⟩ = some (.slice A2 x.tols.length d2) := cell_at o4 rfl
  have c4_4 : w4.cell? ⟨w.heap.size, 4, none⟩ = some (.string x.req) := cell_at o4 rfl
  have c4_5 : w4.cell? ⟨w.heap.size, 5, none⟩ = some (.slice A3 x.apart.length d3) := cell_at o4 rfl
  have c4_6 : w4.cell? ⟨w.heap.size, 6, none⟩ = some (.slice A4 x.prefer.length d4) := cell_at o4 rfl
  have c4_7 : w4.cell? ⟨w.heap.size, 7, none⟩ = some (.int .i64 x.prio) := cell_at o4 rfl
  have rr := (HR4.out.th HT4.out HM4.out.size)
  go_wp2_with fail
  refine wipeP_k _ _ X _ _ rr (fun k hk => Nat.lt_of_lt_of_le (HXX.out k hk) HM4.out.size) s4 ⟨-1, ⟨#[]⟩⟩ ?_
  intro w5 m5 t5
  have HM5 := Lib.hid (HM4.out.trans m5 (fun _ _ h => h))
  have HN5 := Lib.hid (HN4.out.trans m5 (fun _ _ h => h) : Mod X w0 w5)
  have HT5 := Lib.hid (HT4.out.trans t5)
  clear m5 t5 rr o4 c4_0 c4_1 c4_2 c4_3 c4_4 c4_5 c4_6 c4_7
  have hv := HR.out w5 HM5.out HT5.out
  go_wp2_with fail
  go_end0
  exact hv
end Go.Proofs.YtdceflgemhcgcaaGreatDoor
