/-
  slices.Clone at the lists of nodes and pods; ownNode, ownPod.
-/
import Derived.Test.YtdceflgemhcgcaaGreatDoorP16
import Derived.Test.YtdceflgemhcgcaaGreatDoorP28
import Derived.Laws.CopyOwn
import Derived.Test.YtdceflgemhcgcaaGreatDoorP05
import Derived.Test.YtdceflgemhcgcaaGreatDoorP17
set_option linter.unusedVariables false
set_option linter.unusedSimpArgs false
namespace Go.Proofs.YtdceflgemhcgcaaGreatDoor
open Go.RowKit Go.BigFrame

set_option maxRecDepth 100000 in
set_option maxHeartbeats 2000000 in
theorem cloneTR_k (R : Ending → World → Prop) (w : World) (ok : Nat → Prop) (v : Value) (xs : List Tnt) (hok : ∀ k, ok k → k < w.heap.size) (hx : SlK tntK 3 w ok v xs) (hl : xs.length ≤ 1073741824)
    (hR : ∀ v' w', Below w.heap.size w w' → SlR tntK 3 w' (fun k => w.heap.size ≤ k) v' xs → R (.returned v') w') :
    Calls Tryz.prog 178 #[v] w R := by
  have hO : OwnK tntK 3 34 (w.alloc (.cells #[] 34)) w.heap.size (fun _ => False) (.slice (some ⟨w.heap.size, 0, none⟩) 0 0) ([] : List Tnt) := OwnK.made (fun _ h => h.elim) (Nat.le_refl _) (by simp [maxLen]) rfl
  have hB0 : Below w.heap.size w (w.alloc (.cells #[] 34)) := Below.alloc (Below.refl _ _) (Nat.le_refl _) _
  have hx' := (hx.below tntOk hB0 hok)
  obtain ⟨A, c, rfl, hlc, _⟩ := hx.form
  have HR := Lib.hid hR
  clear hR
  cases A with
  | none =>
    obtain rfl := hx.nil_of rfl
    have hv2 := HR.out _ _ (Below.refl _ _) SlR.nil
    have he : ∀ W : World, (binOp .eql 23 (.slice none 0 c) (.slice none 0 0)).run Tryz.prog W = .ok (.bool true) W := fun W => Lib.run_eql_slice_nil W _ _ none 0 c 0 0 Tryz.underlying23
    go_enter Tryz.func178, Tryz.ntmps178
    go_wp2_with fail
    exact hv2
  | some A =>
    have he : ∀ W : World, (binOp .eql 23 (.slice (some A) xs.length c) (.slice none 0 0)).run Tryz.prog W = .ok (.bool false) W := fun W => Lib.run_eql_slice_nil W _ _ (some A) xs.length c 0 0 Tryz.underlying23
    go_enter Tryz.func178, Tryz.ntmps178
    go_wp2_with (at_builtin; refine append_row_k tntOk rfl _ _ 23 34 (.agg #[.string ⟨#[]⟩, .string ⟨#[]⟩, .string ⟨#[]⟩]) 48 w.heap.size (fun _ => False) ok (fun _ _ h => h) rfl Tryz.underlying23 infoTnt rfl (by decide) (by decide) _ _ [] xs rfl rfl (fun _ _ _ _ h => one_tnt h) hO hx' ?c2 ?c3 ?_)
    case c2 => simp
    case c3 => simp; omega
    intro v2 w2 hO2 hg2 hat
    have hB2 := hB0.grown hg2 hB0.size (fun k h => (hO.own k h).1)
    have hv2 := HR.out _ _ hB2 (hO2.slr tntOk)
    go_wp2_with fail
    exact hv2
set_option maxRecDepth 100000 in
set_option maxHeartbeats 2000000 in
theorem cloneIR_k (R : Ending → World → Prop) (w : World) (ok : Nat → Prop) (v : Value) (xs : List Itm) (hok : ∀ k, ok k → k < w.heap.size) (hx : SlK itmK 2 w ok v xs) (hl : xs.length ≤ 1073741824)
    (hR : ∀ v' w', Below w.heap.size w w' → SlR itmK 2 w' (fun k => w.heap.size ≤ k) v' xs → R (.returned v') w') :
    Calls Tryz.prog 130 #[v] w R := by
  have hO : OwnK itmK 2 110 (w.alloc (.cells #[] 110)) w.heap.size (fun _ => False) (.slice (some ⟨w.heap.size, 0, none⟩) 0 0) ([] : List Itm) := OwnK.made (fun _ h => h.elim) (Nat.le_refl _) (by simp [maxLen]) rfl
  have hB0 : Below w.heap.size w (w.alloc (.cells #[] 110)) := Below.alloc (Below.refl _ _) (Nat.le_refl _) _
  have hx' := (hx.below itmOk hB0 hok)
  obtain ⟨A, c, rfl, hlc, _⟩ := hx.form
  have HR := Lib.hid hR
  clear hR
  cases A with
  | none =>
    obtain rfl := hx.nil_of rfl
    have hv2 := HR.out _ _ (Below.refl _ _) SlR.nil
    have he : ∀ W : World, (binOp .eql 24 (.slice none 0 c) (.slice none 0 0)).run Tryz.prog W = .ok (.bool true) W := fun W => Lib.run_eql_slice_nil W _ _ none 0 c 0 0 Tryz.underlying24
    go_enter Tryz.func130, Tryz.ntmps130
    go_wp2_with fail
    exact hv2
  | some A =>
    have he : ∀ W : World, (binOp .eql 24 (.slice (some A) xs.length c) (.slice none 0 0)).run Tryz.prog W = .ok (.bool false) W := fun W => Lib.run_eql_slice_nil W _ _ (some A) xs.length c 0 0 Tryz.underlying24
    go_enter Tryz.func130, Tryz.ntmps130
    go_wp2_with (at_builtin; refine append_row_k itmOk rfl _ _ 24 110 (.agg #[.string ⟨#[]⟩, .int .i64 0]) 24 w.heap.size (fun _ => False) ok (fun _ _ h => h) rfl Tryz.underlying24 infoItm rfl (by decide) (by decide) _ _ [] xs rfl rfl (fun _ _ _ _ h => one_itm h) hO hx' ?c2 ?c3 ?_)
    case c2 => simp
    case c3 => simp; omega
    intro v2 w2 hO2 hg2 hat
    have hB2 := hB0.grown hg2 hB0.size (fun k h => (hO.own k h).1)
    have hv2 := HR.out _ _ hB2 (hO2.slr itmOk)
    go_wp2_with fail
    exact hv2
set_option maxRecDepth 100000 in
set_option maxHeartbeats 2000000 in
theorem cloneOR_k (R : Ending → World → Prop) (w : World) (ok : Nat → Prop) (v : Value) (xs : List Tol) (hok : ∀ k, ok k → k < w.heap.size) (hx : SlK tolK 4 w ok v xs) (hl : xs.length ≤ 1073741824)
    (hR : ∀ v' w', Below w.heap.size w w' → SlR tolK 4 w' (fun k => w.heap.size ≤ k) v' xs → R (.returned v') w') :
    Calls Tryz.prog 131 #[v] w R := by
  have hO : OwnK tolK 4 123 (w.alloc (.cells #[] 123)) w.heap.size (fun _ => False) (.slice (some ⟨w.heap.size, 0, none⟩) 0 0) ([] : List Tol) := OwnK.made (fun _ h => h.elim) (Nat.le_refl _) (by simp [maxLen]) rfl
  have hB0 : Below w.heap.size w (w.alloc (.cells #[] 123)) := Below.alloc (Below.refl _ _) (Nat.le_refl _) _
  have hx' := (hx.below tolOk hB0 hok)
  obtain ⟨A, c, rfl, hlc, _⟩ := hx.form
  have HR := Lib.hid hR
  clear hR
  cases A with
  | none =>
    obtain rfl := hx.nil_of rfl
    have hv2 := HR.out _ _ (Below.refl _ _) SlR.nil
    have he : ∀ W : World, (binOp .eql 27 (.slice none 0 c) (.slice none 0 0)).run Tryz.prog W = .ok (.bool true) W := fun W => Lib.run_eql_slice_nil W _ _ none 0 c 0 0 Tryz.underlying27
    go_enter Tryz.func131, Tryz.ntmps131
    go_wp2_with fail
    exact hv2
  | some A =>
    have he : ∀ W : World, (binOp .eql 27 (.slice (some A) xs.length c) (.slice none 0 0)).run Tryz.prog W = .ok (.bool false) W := fun W => Lib.run_eql_slice_nil W _ _ (some A) xs.length c 0 0 Tryz.underlying27
    go_enter Tryz.func131, Tryz.ntmps131
    go_wp2_with (at_builtin; refine append_row_k tolOk rfl _ _ 27 123 (.agg #[.string ⟨#[]⟩, .string ⟨#[]⟩, .string ⟨#[]⟩, .string ⟨#[]⟩]) 64 w.heap.size (fun _ => False) ok (fun _ _ h => h) rfl Tryz.underlying27 infoTol rfl (by decide) (by decide) _ _ [] xs rfl rfl (fun _ _ _ _ h => one_tol h) hO hx' ?c2 ?c3 ?_)
    case c2 => simp
    case c3 => simp; omega
    intro v2 w2 hO2 hg2 hat
    have hB2 := hB0.grown hg2 hB0.size (fun k h => (hO.own k h).1)
    have hv2 := HR.out _ _ hB2 (hO2.slr tolOk)
    go_wp2_with fail
    exact hv2
set_option maxRecDepth 100000 in
set_option maxHeartbeats 2000000 in
theorem cloneAR_k (R : Ending → World → Prop) (w : World) (ok : Nat → Prop) (v : Value) (xs : List Apt) (hok : ∀ k, ok k → k < w.heap.size) (hx : SlK aptK 2 w ok v xs) (hl : xs.length ≤ 1073741824)
    (hR : ∀ v' w', Below w.heap.size w w' → SlR aptK 2 w' (fun k => w.heap.size ≤ k) v' xs → R (.returned v') w') :
    Calls Tryz.prog 132 #[v] w R := by
  have hO : OwnK aptK 2 126 (w.alloc (.cells #[] 126)) w.heap.size (fun _ => False) (.slice (some ⟨w.heap.size, 0, none⟩) 0 0) ([] : List Apt) := OwnK.made (fun _ h => h.elim) (Nat.le_refl _) (by simp [maxLen]) rfl
  have hB0 : Below w.heap.size w (w.alloc (.cells #[] 126)) := Below.alloc (Below.refl _ _) (Nat.le_refl _) _
  have hx' := (hx.below aptOk hB0 hok)
  obtain ⟨A, c, rfl, hlc, _⟩ := hx.form
  have HR := Lib.hid hR
  clear hR
  cases A with
  | none =>
    obtain rfl := hx.nil_of rfl
    have hv2 := HR.out _ _ (Below.refl _ _) SlR.nil
    have he : ∀ W : World, (binOp .eql 28 (.slice none 0 c) (.slice none 0 0)).run Tryz.prog W = .ok (.bool true) W := fun W => Lib.run_eql_slice_nil W _ _ none 0 c 0 0 Tryz.underlying28
    go_enter Tryz.func132, Tryz.ntmps132
    go_wp2_with fail
    exact hv2
  | some A =>
    have he : ∀ W : World, (binOp .eql 28 (.slice (some A) xs.length c) (.slice none 0 0)).run Tryz.prog W = .ok (.bool false) W := fun W => Lib.run_eql_slice_nil W _ _ (some A) xs.length c 0 0 Tryz.underlying28
    go_enter Tryz.func132, Tryz.ntmps132
    go_wp2_with (at_builtin; refine append_row_k aptOk rfl _ _ 28 126 (.agg #[.string ⟨#[]⟩, .string ⟨#[]⟩]) 32 w.heap.size (fun _ => False) ok (fun _ _ h => h) rfl Tryz.underlying28 infoApt rfl (by decide) (by decide) _ _ [] xs rfl rfl (fun _ _ _ _ h => one_apt h) hO hx' ?c2 ?c3 ?_)
    case c2 => simp
    case c3 => simp; omega
    intro v2 w2 hO2 hg2 hat
    have hB2 := hB0.grown hg2 hB0.size (fun k h => (hO.own k h).1)
    have hv2 := HR.out _ _ hB2 (hO2.slr aptOk)
    go_wp2_with fail
    exact hv2
set_option maxRecDepth 100000 in
set_option maxHeartbeats 2000000 in
theorem clonePR_k (R : Ending → World → Prop) (w : World) (ok : Nat → Prop) (v : Value) (xs : List Prf) (hok : ∀ k, ok k → k < w.heap.size) (hx : SlK prfK 2 w ok v xs) (hl : xs.length ≤ 1073741824)
    (hR : ∀ v' w', Below w.heap.size w w' → SlR prfK 2 w' (fun k => w.heap.size ≤ k) v' xs → R (.returned v') w') :
    Calls Tryz.prog 133 #[v] w R := by
  have hO : OwnK prfK 2 129 (w.alloc (.cells #[] 129)) w.heap.size (fun _ => False) (.slice (some ⟨w.heap.size, 0, none⟩) 0 0) ([] : List Prf) := OwnK.made (fun _ h => h.elim) (Nat.le_refl _) (by simp [maxLen]) rfl
  have hB0 : Below w.heap.size w (w.alloc (.cells #[] 129)) := Below.alloc (Below.refl _ _) (Nat.le_refl _) _
  have hx' := (hx.below prfOk hB0 hok)
  obtain ⟨A, c, rfl, hlc, _⟩ := hx.form
  have HR := Lib.hid hR
  clear hR
  cases A with
  | none =>
    obtain rfl := hx.nil_of rfl
    have hv2 := HR.out _ _ (Below.refl _ _) SlR.nil
    have he : ∀ W : World, (binOp .eql 29 (.slice none 0 c) (.slice none 0 0)).run Tryz.prog W = .ok (.bool true) W := fun W => Lib.run_eql_slice_nil W _ _ none 0 c 0 0 Tryz.underlying29
    go_enter Tryz.func133, Tryz.ntmps133
    go_wp2_with fail
    exact hv2
  | some A =>
    have he : ∀ W : World, (binOp .eql 29 (.slice (some A) xs.length c) (.slice none 0 0)).run Tryz.prog W = .ok (.bool false) W := fun W => Lib.run_eql_slice_nil W _ _ (some A) xs.length c 0 0 Tryz.underlying29
    go_enter Tryz.func133, Tryz.ntmps133
    go_wp2_with (at_builtin; refine append_row_k prfOk rfl _ _ 29 129 (.agg #[.int .i64 0, .string ⟨#[]⟩]) 24 w.heap.size (fun _ => False) ok (fun _ _ h => h) rfl Tryz.underlying29 infoPrf rfl (by decide) (by decide) _ _ [] xs rfl rfl (fun _ _ _ _ h => one_prf h) hO hx' ?c2 ?c3 ?_)
    case c2 => simp
    case c3 => simp; omega
    intro v2 w2 hO2 hg2 hat
    have hB2 := hB0.grown hg2 hB0.size (fun k h => (hO.own k h).1)
    have hv2 := HR.out _ _ hB2 (hO2.slr prfOk)
    go_wp2_with fail
    exact hv2
theorem cloneI_k (R : Ending → World → Prop) (w : World) (ok : Nat → Prop) (v : Value) (xs : List Itm) (hok : ∀ k, ok k → k < w.heap.size) (hx : SlK itmK 2 w ok v xs) (hl : xs.length ≤ 1073741824)
    (hR : ∀ v' w', Below w.heap.size w w' → SlK itmK 2 w' (fun k => w.heap.size ≤ k) v' xs → R (.returned v') w') :
    Calls Tryz.prog 130 #[v] w R := cloneIR_k R w ok v xs hok hx hl (fun v' w' g h => hR v' w' g h.1)
theorem cloneLR_k (R : Ending → World → Prop) (w : World) (ok : Nat → Prop) (v : Value) (xs : List Lab) (hok : ∀ k, ok k → k < w.heap.size) (hx : SlK labK 2 w ok v xs) (hl : xs.length ≤ 1073741824)
    (hR : ∀ v' w', Below w.heap.size w w' → SlR labK 2 w' (fun k => w.heap.size ≤ k) v' xs → R (.returned v') w') :
    Calls Tryz.prog 129 #[v] w R := cloneL_k R w ok v xs hok hx hl (fun v' w' g h => hR v' w' g (h.slr labOk))
set_option maxRecDepth 100000 in
set_option maxHeartbeats 8000000 in
theorem ownNodeR_k (R : Ending → World → Prop) (w : World) (ok : Nat → Prop) (x : Nod) (cs : List Value) (hok : ∀ k, ok k → k < w.heap.size) (hx : nodK w ok x cs) (hs : NodShort x)
    (hR : ∀ cs' w', Below w.heap.size w w' → nodR w' (fun k => w.heap.size ≤ k) x cs' → R (.returned (.agg cs'.toArray)) w') :
    Calls Tryz.prog 94 #[.agg cs.toArray] w R := by
  obtain ⟨vl, vt, vc, rfl, hl, ht, hc⟩ := hx
  obtain ⟨s1, s2, s3⟩ := hs
  obtain ⟨A00, d00, rfl, _, _⟩ := hl.form
  obtain ⟨A01, d01, rfl, _, _⟩ := ht.form
  obtain ⟨A02, d02, rfl, _, _⟩ := hc.form
  have HR := Lib.hid hR
  clear hR
  have HL := Lib.hid hl
  clear hl
  have HT := Lib.hid ht
  clear ht
  have HC := Lib.hid hc
  clear hc
  have HOK := Lib.hid hok
  clear hok
  obtain ⟨w1, hw1⟩ : ∃ w1, w1 = ((w.alloc (.cells #[.string x.name, .slice A00 x.labels.length d00, .slice A01 x.taints.length d01, .slice A02 x.cap.length d02, .bool x.cord] 26)).alloc (.cells #[.string ⟨#[]⟩, .slice none 0 0, .slice none 0 0, .slice none 0 0, .bool false] 26)) := ⟨_, rfl⟩
  have z1 : w.heap.size + 2 ≤ w1.heap.size := by rw [hw1]; simp
  have HB1 := Lib.hid (show Below w.heap.size w w1 by
    rw [hw1]
    exact Below.alloc (Below.alloc (Below.refl _ _) (Nat.le_refl _) _) (by simp) _)
  have o1 : w1.heap[w.heap.size]? = some (.cells #[.string x.name, .slice A00 x.labels.length d00, .slice A01 x.taints.length d01, .slice A02 x.cap.length d02, .bool x.cord] 26 (0, 0)) := by
    rw [hw1]
    exact hkeep (heap_alloc_new w _) _
  have p1 : w1.heap[w.heap.size + 1]? = some (.cells #[.string ⟨#[]⟩, .slice none 0 0, .slice none 0 0, .slice none 0 0, .bool false] 26 (0, 0)) := by
    rw [hw1]
    simpa using heap_alloc_new (w.alloc _) _
  go_enter Tryz.func94, Tryz.ntmps94
  go_upto_region 1 with fail
  rw [← hw1]
  clear hw1
  have c1 : w1.cell? ⟨w.heap.size, 1, none⟩ = some (.slice A00 x.labels.length d00) := cell_at o1 rfl
  have g0 : Below w.heap.size w w1 := HB1.out
  go_wp2_with fail
  refine cloneLR_k _ _ ok _ x.labels (fun k hk => Nat.lt_of_lt_of_le (HOK.out k hk) g0.size) (HL.out.below labOk g0 HOK.out) s1 ?_
  intro v1 w2 g2 hv1
  try simp only [World.size_setCell] at g2 hv1
  have HB2 := Lib.hid (g0.trans (g2.mono HB1.out.size))
  have o2 : w2.heap[w.heap.size]? = some (.cells #[.string x.name, .slice A00 x.labels.length d00, .slice A01 x.taints.length d01, .slice A02 x.cap.length d02, .bool x.cord] 26 (0, 0)) := (g2.block _ (by omega)).trans (o1)
  have p2 : w2.heap[w.heap.size + 1]? = some (.cells #[.string ⟨#[]⟩, .slice none 0 0, .slice none 0 0, .slice none 0 0, .bool false] 26 (0, 0)) := (g2.block _ (by omega)).trans (p1)
  have y2 : w1.heap.size ≤ w2.heap.size := by simpa using g2.size
  have z2 : w.heap.size + 2 ≤ w2.heap.size := by omega
  have hv1 := (hv1.mono labOk (ok' := fun k => w1.heap.size ≤ k) (fun k hk => by omega)).bnd labOk
  obtain ⟨A1, d1, e1, _, _⟩ := hv1.form
  subst e1
  have f2 : w2.frozen? ⟨w.heap.size, 1, none⟩ = false := frozen_at o2
  have k2 : (w2.cell? ⟨w.heap.size, 1, none⟩) = some (.slice A00 x.labels.length d00) := cell_at o2 rfl
  clear g2 g0 c1 o1 p1
  have c2 : (w2.setCell ⟨w.heap.size, 1, none⟩ (.slice A1 x.labels.length d1)).cell? ⟨w.heap.size, 2, none⟩ = some (.slice A01 x.taints.length d01) := cell_at (heap_setCell_at o2) rfl
  have g0 : Below w.heap.size w (w2.setCell ⟨w.heap.size, 1, none⟩ (.slice A1 x.labels.length d1)) := Below.setCell HB2.out (Nat.le_refl _) _
  go_wp2_with fail
  refine cloneTR_k _ _ ok _ x.taints (fun k hk => Nat.lt_of_lt_of_le (HOK.out k hk) g0.size) (HT.out.below tntOk g0 HOK.out) s2 ?_
  intro v2 w3 g3 hv2
  try simp only [World.size_setCell] at g3 hv2
  have HB3 := Lib.hid (g0.trans (g3.mono HB2.out.size))
  have o3 : w3.heap[w.heap.size]? = some (.cells #[.string x.name, .slice A1 x.labels.length d1, .slice A01 x.taints.length d01, .slice A02 x.cap.length d02, .bool x.cord] 26 (0, 0)) := (g3.block _ (by omega)).trans ((heap_setCell_at o2).trans rfl)
  have p3 : w3.heap[w.heap.size + 1]? = some (.cells #[.string ⟨#[]⟩, .slice none 0 0, .slice none 0 0, .slice none 0 0, .bool false] 26 (0, 0)) := (g3.block _ (by omega)).trans ((Below.heap_setCell _ _ _ _ (by simp)).trans p2)
  have y3 : w2.heap.size ≤ w3.heap.size := by simpa using g3.size
  have z3 : w.heap.size + 2 ≤ w3.heap.size := by omega
  have hv1 := hv1.move labOk (w' := w3) (fun j hj => (g3.block j (by have := hj.2; omega)).trans (Below.heap_setCell _ _ _ _ (by have := hj.1; simp; omega)))
  have hv2 := (hv2.mono tntOk (ok' := fun k => w1.heap.size ≤ k) (fun k hk => by omega)).bnd tntOk
  obtain ⟨A2, d2, e2, _, _⟩ := hv2.form
  subst e2
  have f3 : w3.frozen? ⟨w.heap.size, 2, none⟩ = false := frozen_at o3
  have k3 : (w3.cell? ⟨w.heap.size, 2, none⟩) = some (.slice A01 x.taints.length d01) := cell_at o3 rfl
  clear g3 g0 c2 f2 k2 o2 p2
  have c3 : (w3.setCell ⟨w.heap.size, 2, none⟩ (.slice A2 x.taints.length d2)).cell? ⟨w.heap.size, 3, none⟩ = some (.slice A02 x.cap.length d02) := cell_at (heap_setCell_at o3) rfl
  have g0 : Below w.heap.size w (w3.setCell ⟨w.heap.size, 2, none⟩ (.slice A2 x.taints.length d2)) := Below.setCell HB3.out (Nat.le_refl _) _
  go_wp2_with fail
  refine cloneIR_k _ _ ok _ x.cap (fun k hk => Nat.lt_of_lt_of_le (HOK.out k hk) g0.size) (HC.out.below itmOk g0 HOK.out) s3 ?_
  intro v3 w4 g4 hv3
  try simp only [World.size_setCell] at g4 hv3
  have HB4 := Lib.hid (g0.trans (g4.mono HB3.out.size))
  have o4 : w4.heap[w.heap.size]? = some (.cells #[.string x.name, .slice A1 x.labels.length d1, .slice A2 x.taints.length d2, .slice A02 x.cap.length d02, .bool x.cord] 26 (0, 0)) := (g4.block _ (by omega)).trans ((heap_setCell_at o3).trans rfl)
  have p4 : w4.heap[w.heap.size + 1]? = some (.cells #[.string ⟨#[]⟩, .slice none 0 0, .slice none 0 0, .slice none 0 0, .bool false] 26 (0, 0)) := (g4.block _ (by omega)).trans ((Below.heap_setCell _ _ _ _ (by simp)).trans p3)
  have y4 : w3.heap.size ≤ w4.heap.size := by simpa using g4.size
  have z4 : w.heap.size + 2 ≤ w4.heap.size := by omega
  have hv1 := hv1.move labOk (w' := w4) (fun j hj => (g4.block j (by have := hj.2; omega)).trans (Below.heap_setCell _ _ _ _ (by have := hj.1; simp; omega)))
  have hv2 := hv2.move tntOk (w' := w4) (fun j hj => (g4.block j (by have := hj.2; omega)).trans (Below.heap_setCell _ _ _ _ (by have := hj.1; simp; omega)))
  have hv3 := (hv3.mono itmOk (ok' := fun k => w1.heap.size ≤ k) (fun k hk => by omega)).bnd itmOk
  obtain ⟨A3, d3, e3, _, _⟩ := hv3.form
  subst e3
  have f4 : w4.frozen? ⟨w.heap.size, 3, none⟩ = false := frozen_at o4
  have k4 : (w4.cell? ⟨w.heap.size, 3, none⟩) = some (.slice A02 x.cap.length d02) := cell_at o4 rfl
  clear g4 g0 c3 f3 k3 o3 p3
  have ob : (w4.setCell ⟨w.heap.size, 3, none⟩ (.slice A3 x.cap.length d3)).heap[w.heap.size]? = some (.cells #[.string x.name, .slice A1 x.labels.length d1, .slice A2 x.taints.length d2, .slice A3 x.cap.length d3, .bool x.cord] 26 (0, 0)) := (heap_setCell_at o4).trans rfl
  have pb : (w4.setCell ⟨w.heap.size, 3, none⟩ (.slice A3 x.cap.length d3)).heap[w.heap.size + 1]? = some (.cells #[.string ⟨#[]⟩, .slice none 0 0, .slice none 0 0, .slice none 0 0, .bool false] 26 (0, 0)) := (Below.heap_setCell _ _ _ _ (by simp)).trans p4
  have yy : ((w4.setCell ⟨w.heap.size, 3, none⟩ (.slice A3 x.cap.length d3)).setRow (w.heap.size + 1) #[.string x.name, .slice A1 x.labels.length d1, .slice A2 x.taints.length d2, .slice A3 x.cap.length d3, .bool x.cord]).heap[w.heap.size + 1]? = some (.cells #[.string x.name, .slice A1 x.labels.length d1, .slice A2 x.taints.length d2, .slice A3 x.cap.length d3, .bool x.cord] 26 (0, 0)) := setRow_heap _ _ _ _ _ _ pb
  have hv := HR.out [.string x.name, .slice A1 x.labels.length d1, .slice A2 x.taints.length d2, .slice A3 x.cap.length d3, .bool x.cord] ((w4.setCell ⟨w.heap.size, 3, none⟩ (.slice A3 x.cap.length d3)).setRow (w.heap.size + 1) #[.string x.name, .slice A1 x.labels.length d1, .slice A2 x.taints.length d2, .slice A3 x.cap.length d3, .bool x.cord]) (below_setRow (Below.setCell HB4.out (Nat.le_refl _) _) (by omega) _) ⟨_, _, _, rfl, (hv1.move labOk (fun j hj => (setRow_other _ _ _ _ (by have := hj.1; omega)).trans (Below.heap_setCell _ _ _ _ (by have := hj.1; simp; omega)))).mono labOk (fun k hk => by have := hk.1; have := HB1.out.size; omega), (hv2.move tntOk (fun j hj => (setRow_other _ _ _ _ (by have := hj.1; omega)).trans (Below.heap_setCell _ _ _ _ (by have := hj.1; simp; omega)))).mono tntOk (fun k hk => by have := hk.1; have := HB1.out.size; omega), (hv3.move itmOk (fun j hj => (setRow_other _ _ _ _ (by have := hj.1; omega)).trans (Below.heap_setCell _ _ _ _ (by have := hj.1; simp; omega)))).mono itmOk (fun k hk => by have := hk.1; have := HB1.out.size; omega)⟩
  go_wp2_with (first | (refine wpList_load_row rfl 26 _ rfl w.heap.size rfl 26 #[.string x.name, .slice A1 x.labels.length d1, .slice A2 x.taints.length d2, .slice A3 x.cap.length d3, .bool x.cord] (0, 0) _ ob Tryz.underlying26 rfl (by kernel_rfl) ?_) | (refine wpList_store_row rfl 26 _ _ rfl (w.heap.size + 1) #[.string x.name, .slice A1 x.labels.length d1, .slice A2 x.taints.length d2, .slice A3 x.cap.length d3, .bool x.cord] rfl rfl 26 #[.string ⟨#[]⟩, .slice none 0 0, .slice none 0 0, .slice none 0 0, .bool false] pb (by kernel_rfl) (by simp) (by simp [Value.oneCell']) ?_))
  exact bodyPost_ret (results_cell_row Tryz.results94 _ _ (w.heap.size + 1) 26 #[.string x.name, .slice A1 x.labels.length d1, .slice A2 x.taints.length d2, .slice A3 x.cap.length d3, .bool x.cord] (0, 0) _ rfl yy Tryz.underlying26 rfl (by kernel_rfl)) rfl hv
set_option maxRecDepth 100000 in
set_option maxHeartbeats 8000000 in
theorem ownPodR_k (R : Ending → World → Prop) (w : World) (ok : Nat → Prop) (x : Pd) (cs : List Value) (hok : ∀ k, ok k → k < w.heap.size) (hx : pdK w ok x cs) (hs : PdShort x)
    (hR : ∀ cs' w', Below w.heap.size w w' → pdR w' (fun k => w.heap.size ≤ k) x cs' → R (.returned (.agg cs'.toArray)) w') :
    Calls Tryz.prog 54 #[.agg cs.toArray] w R := by
  obtain ⟨vl, vn, vt, va, vp, rfl, hl, hn, ht, ha, hp⟩ := hx
  obtain ⟨s1, s2, s3, s4, s5⟩ := hs
  obtain ⟨A00, d00, rfl, _, _⟩ := hl.form
  obtain ⟨A01, d01, rfl, _, _⟩ := hn.form
  obtain ⟨A02, d02, rfl, _, _⟩ := ht.form
  obtain ⟨A03, d03, rfl, _, _⟩ := ha.form
  obtain ⟨A04, d04, rfl, _, _⟩ := hp.form
  have HR := Lib.hid hR
  clear hR
  have HL := Lib.hid hl
  clear hl
  have HN := Lib.hid hn
  clear hn
  have HT := Lib.hid ht
  clear ht
  have HA := Lib.hid ha
  clear ha
  have HP := Lib.hid hp
  clear hp
  have HOK := Lib.hid hok
  clear hok
  obtain ⟨w1, hw1⟩ : ∃ w1, w1 = ((w.alloc (.cells #[.string x.name, .slice A00 x.labels.length d00, .slice A01 x.needs.length d01, .slice A02 x.tols.length d02, .string x.req, .slice A03 x.apart.length d03, .slice A04 x.prefer.length d04, .int .i64 x.prio] 31)).alloc (.cells #[.string ⟨#[]⟩, .slice none 0 0, .slice none 0 0, .slice none 0 0, .string ⟨#[]⟩, .slice none 0 0, .slice none 0 0, .int .i64 0] 31)) := ⟨_, rfl⟩
  have z1 : w.heap.size + 2 ≤ w1.heap.size := by rw [hw1]; simp
  have HB1 := Lib.hid (show Below w.heap.size w w1 by
    rw [hw1]
    exact Below.alloc (Below.alloc (Below.refl _ _) (Nat.le_refl _) _) (by simp) _)
  have o1 : w1.heap[w.heap.size]? = some (.cells #[.string x.name, .slice A00 x.labels.length d00, .slice A01 x.needs.length d01, .slice A02 x.tols.length d02, .string x.req, .slice A03 x.apart.length d03, .slice A04 x.prefer.length d04, .int .i64 x.prio] 31 (0, 0)) := by
    rw [hw1]
    exact hkeep (heap_alloc_new w _) _
  have p1 : w1.heap[w.heap.size + 1]? = some (.cells #[.string ⟨#[]⟩, .slice none 0 0, .slice none 0 0, .slice none 0 0, .string ⟨#[]⟩, .slice none 0 0, .slice none 0 0, .int .i64 0] 31 (0, 0)) := by
    rw [hw1]
    simpa using heap_alloc_new (w.alloc _) _
  go_enter Tryz.func54, Tryz.ntmps54
  go_upto_region 1 with fail
  rw [← hw1]
  clear hw1
  have c1 : w1.cell? ⟨w.heap.size, 1, none⟩ = some (.slice A00 x.labels.length d00) := cell_at o1 rfl
  have g0 : Below w.heap.size w w1 := HB1.out
  go_wp2_with fail
  refine cloneLR_k _ _ ok _ x.labels (fun k hk => Nat.lt_of_lt_of_le (HOK.out k hk) g0.size) (HL.out.below labOk g0 HOK.out) s1 ?_
  intro v1 w2 g2 hv1
  try simp only [World.size_setCell] at g2 hv1
  have HB2 := Lib.hid (g0.trans (g2.mono HB1.out.size))
  have o2 : w2.heap[w.heap.size]? = some (.cells #[.string x.name, .slice A00 x.labels.length d00, .slice A01 x.needs.length d01, .slice A02 x.tols.length d02, .string x.req, .slice A03 x.apart.length d03, .slice A04 x.prefer.length d04, .int .i64 x.prio] 31 (0, 0)) := (g2.block _ (by omega)).trans (o1)
  have p2 : w2.heap[w.heap.size + 1]? = some (.cells #[.string ⟨#[]⟩, .slice none 0 0, .slice none 0 0, .slice none 0 0, .string ⟨#[]⟩, .slice none 0 0, .slice none 0 0, .int .i64 0] 31 (0, 0)) := (g2.block _ (by omega)).trans (p1)
  have y2 : w1.heap.size ≤ w2.heap.size := by simpa using g2.size
  have z2 : w.heap.size + 2 ≤ w2.heap.size := by omega
  have hv1 := (hv1.mono labOk (ok' := fun k => w1.heap.size ≤ k) (fun k hk => by omega)).bnd labOk
  obtain ⟨A1, d1, e1, _, _⟩ := hv1.form
  subst e1
  have f2 : w2.frozen? ⟨w.heap.size, 1, none⟩ = false := frozen_at o2
  have k2 : (w2.cell? ⟨w.heap.size, 1, none⟩) = some (.slice A00 x.labels.length d00) := cell_at o2 rfl
  clear g2 g0 c1 o1 p1
  have c2 : (w2.setCell ⟨w.heap.size, 1, none⟩ (.slice A1 x.labels.length d1)).cell? ⟨w.heap.size, 2, none⟩ = some (.slice A01 x.needs.length d01) := cell_at (heap_setCell_at o2) rfl
  have g0 : Below w.heap.size w (w2.setCell ⟨w.heap.size, 1, none⟩ (.slice A1 x.labels.length d1)) := Below.setCell HB2.out (Nat.le_refl _) _
  go_wp2_with fail
  refine cloneIR_k _ _ ok _ x.needs (fun k hk => Nat.lt_of_lt_of_le (HOK.out k hk) g0.size) (HN.out.below itmOk g0 HOK.out) s2 ?_
  intro v2 w3 g3 hv2
  try simp only [World.size_setCell] at g3 hv2
  have HB3 := Lib.hid (g0.trans (g3.mono HB2.out.size))
  have o3 : w3.heap[w.heap.size]? = some (.cells #[.string x.name, .slice A1 x.labels.length d1, .slice A01 x.needs.length d01, .slice A02 x.tols.length d02, .string x.req, .slice A03 x.apart.length d03, .slice A04 x.prefer.length d04, .int .i64 x.prio] 31 (0, 0)) := (g3.block _ (by omega)).trans ((heap_setCell_at o2).trans rfl)
  have p3 : w3.heap[w.heap.size + 1]? = some (.cells #[.string ⟨#[]⟩, .slice none 0 0, .slice none 0 0, .slice none 0 0, .string ⟨#[]⟩, .slice none 0 0, .slice none 0 0, .int .i64 0] 31 (0, 0)) := (g3.block _ (by omega)).trans ((Below.heap_setCell _ _ _ _ (by simp)).trans p2)
  have y3 : w2.heap.size ≤ w3.heap.size := by simpa using g3.size
  have z3 : w.heap.size + 2 ≤ w3.heap.size := by omega
  have hv1 := hv1.move labOk (w' := w3) (fun j hj => (g3.block j (by have := hj.2; omega)).trans (Below.heap_setCell _ _ _ _ (by have := hj.1; simp; omega)))
  have hv2 := (hv2.mono itmOk (ok' := fun k => w1.heap.size ≤ k) (fun k hk => by omega)).bnd itmOk
  obtain ⟨A2, d2, e2, _, _⟩ := hv2.form
  subst e2
  have f3 : w3.frozen? ⟨w.heap.size, 2, none⟩ = false := frozen_at o3
  have k3 : (w3.cell? ⟨w.heap.size, 2, none⟩) = some (.slice A01 x.needs.length d01) := cell_at o3 rfl
  clear g3 g0 c2 f2 k2 o2 p2
  have c3 : (w3.setCell ⟨w.heap.size, 2, none⟩ (.slice A2 x.needs.length d2)).cell? ⟨w.heap.size, 3, none⟩ = some (.slice A02 x.tols.length d02) := cell_at (heap_setCell_at o3) rfl
  have g0 : Below w.heap.size w (w3.setCell ⟨w.heap.size, 2, none⟩ (.slice A2 x.needs.length d2)) := Below.setCell HB3.out (Nat.le_refl _) _
  go_wp2_with fail
  refine cloneOR_k _ _ ok _ x.tols (fun k hk => Nat.lt_of_lt_of_le (HOK.out k hk) g0.size) (HT.out.below tolOk g0 HOK.out) s3 ?_
  intro v3 w4 g4 hv3
  try simp only [World.size_setCell] at g4 hv3
  have HB4 := Lib.hid (g0.trans (g4.mono HB3.out.size))
  have o4 : w4.heap[w.heap.size]? = some (.cells #[.string x.name, .slice A1 x.labels.length d1, .slice A2 x.needs.length d2, .slice A02 x.tols.length d02, .string x.req, .slice A03 x.apart.length d03, .slice A04 x.prefer.length d04, .int .i64 x.prio] 31 (0, 0)) := (g4.block _ (by omega)).trans ((heap_setCell_at o3).trans rfl)
  have p4 : w4.heap[w.heap.size + 1]? = some (.cells #[.string ⟨#[]⟩, .slice none 0 0, .slice none 0 0, .slice none 0 0, .string ⟨#[]⟩, .slice none 0 0, .slice none 0 0, .int .i64 0] 31 (0, 0)) := (g4.block _ (by omega)).trans ((Below.heap_setCell _ _ _ _ (by simp)).trans p3)
  have y4 : w3.heap.size ≤ w4.heap.size := by simpa using g4.size
  have z4 : w.heap.size + 2 ≤ w4.heap.size := by omega
  have hv1 := hv1.move labOk (w' := w4) (fun j hj => (g4.block j (by have := hj.2; omega)).trans (Below.heap_setCell _ _ _ _ (by have := hj.1; simp; omega)))
  have hv2 := hv2.move itmOk (w' := w4) (fun j hj => (g4.block j (by have := hj.2; omega)).trans (Below.heap_setCell _ _ _ _ (by have := hj.1; simp; omega)))
  have hv3 := (hv3.mono tolOk (ok' := fun k => w1.heap.size ≤ k) (fun k hk => by omega)).bnd tolOk
  obtain ⟨A3, d3, e3, _, _⟩ := hv3.form
  subst e3
  have f4 : w4.frozen? ⟨w.heap.size, 3, none⟩ = false := frozen_at o4
  have k4 : (w4.cell? ⟨w.heap.size, 3, none⟩) = some (.slice A02 x.tols.length d02) := cell_at o4 rfl
  clear g4 g0 c3 f3 k3 o3 p3
  have c5 : (w4.setCell ⟨w.heap.size, 3, none⟩ (.slice A3 x.tols.length d3)).cell? ⟨w.heap.size, 5, none⟩ = some (.slice A03 x.apart.length d03) := cell_at (heap_setCell_at o4) rfl
  have g0 : Below w.heap.size w (w4.setCell ⟨w.heap.size, 3, none⟩ (.slice A3 x.tols.length d3)) := Below.setCell HB4.out (Nat.le_refl _) _
  go_wp2_with fail
  refine cloneAR_k _ _ ok _ x.apart (fun k hk => Nat.lt_of_lt_of_le (HOK.out k hk) g0.size) (HA.out.below aptOk g0 HOK.out) s4 ?_
  intro v4 w5 g5 hv4
  try simp only [World.size_setCell] at g5 hv4
  have HB5 := Lib.hid (g0.trans (g5.mono HB4.out.size))
  have o5 : w5.heap[w.heap.size]? = some (.cells #[.string x.name, .slice A1 x.labels.length d1, .slice A2 x.needs.length d2, .slice A3 x.tols.length d3, .string x.req, .slice A03 x.apart.length d03, .slice A04 x.prefer.length d04, .int .i64 x.prio] 31 (0, 0)) := (g5.block _ (by omega)).trans ((heap_setCell_at o4).trans rfl)
  have p5 : w5.heap[w.heap.size + 1]? = some (.cells #[.string ⟨#[]⟩, .slice none 0 0, .slice none 0 0, .slice none 0 0, .string ⟨#[]⟩, .slice none 0 0, .slice none 0 0, .int .i64 0] 31 (0, 0)) := (g5.block _ (by omega)).trans ((Below.heap_setCell _ _ _ _ (by simp)).trans p4)
  have y5 : w4.heap.size ≤ w5.heap.size := by simpa using g5.size
  have z5 : w.heap.size + 2 ≤ w5.heap.size := by omega
  have hv1 := hv1.move labOk (w' := w5) (fun j hj => (g5.block j (by have := hj.2; omega)).trans (Below.heap_setCell _ _ _ _ (by have := hj.1; simp; omega)))
  have hv2 := hv2.move itmOk (w' := w5) (fun j hj => (g5.block j (by have := hj.2; omega)).trans (Below.heap_setCell _ _ _ _ (by have := hj.1; simp; omega)))
  have hv3 := hv3.move tolOk (w' := w5) (fun j hj => (g5.block j (by have := hj.2; omega)).trans (Below.heap_setCell _ _ _ _ (by have := hj.1; simp; omega)))
  have hv4 := (hv4.mono aptOk (ok' := fun k => w1.heap.size ≤ k) (fun k hk => by omega)).bnd aptOk
  obtain ⟨A4, d4, e4, _, _⟩ := hv4.form
  subst e4
  have f5 : w5.frozen? ⟨w.heap.size, 5, none⟩ = false := frozen_at o5
  have k5 : (w5.cell? ⟨w.heap.size, 5, none⟩) = some (.slice A03 x.apart.length d03) := cell_at o5 rfl
  clear g5 g0 c5 f4 k4 o4 p4
  have c6 : (w5.setCell ⟨w.heap.size, 5, none⟩ (.slice A4 x.apart.length d4)).cell? ⟨w.heap.size, 6, none⟩ = some (.slice A04 x.prefer.length d04) := cell_at (heap_setCell_at o5) rfl
  have g0 : Below w.heap.size w (w5.setCell ⟨w.heap.size, 5, none⟩ (.slice A4 x.apart.length d4)) := Below.setCell HB5.out (Nat.le_refl _) _
  go_wp2_with fail
  refine clonePR_k _ _ ok _ x.prefer (fun k hk => Nat.lt_of_lt_of_le (HOK.out k hk) g0.size) (HP.out.below prfOk g0 HOK.out) s5 ?_
  intro v5 w6 g6 hv5
  try simp only [World.size_setCell] at g6 hv5
  have HB6 := Lib.hid (g0.trans (g6.mono HB5.out.size))
  have o6 : w6.heap[w.heap.size]? = some (.cells #[.string x.name, .slice A1 x.labels.length d1, .slice A2 x.needs.length d2, .slice A3 x.tols.length d3, .string x.req, .slice A4 x.apart.length d4, .slice A04 x.prefer.length d04, .int .i64 x.prio] 31 (0, 0)) := (g6.block _ (by omega)).trans ((heap_setCell_at o5).trans rfl)
  have p6 : w6.heap[w.heap.size + 1]? = some (.cells #[.string ⟨#[]⟩, .slice none 0 0, .slice none 0 0, .slice none 0 0, .string ⟨#[]⟩, .slice none 0 0, .slice none 0 0, .int .i64 0] 31 (0, 0)) := (g6.block _ (by omega)).trans ((Below.heap_setCell _ _ _ _ (by simp)).trans p5)
  have y6 : w5.heap.size ≤ w6.heap.size := by simpa using g6.size
  have z6 : w.heap.size + 2 ≤ w6.heap.size := by omega
  have hv1 := hv1.move labOk (w' := w6) (fun j hj => (g6.block j (by have := hj.2; omega)).trans (Below.heap_setCell _ _ _ _ (by have := hj.1; simp; omega)))
  have hv2 := hv2.move itmOk (w' := w6) (fun j hj => (g6.block j (by have := hj.2; omega)).trans (Below.heap_setCell _ _ _ _ (by have := hj.1; simp; omega)))
  have hv3 := hv3.move tolOk (w' := w6) (fun j hj => (g6.block j (by have := hj.2; omega)).trans (Below.heap_setCell _ _ _ _ (by have := hj.1; simp; omega)))
  have hv4 := hv4.move aptOk (w' := w6) (fun j hj => (g6.block j (by have := hj.2; omega)).trans (Below.heap_setCell _ _ _ _ (by have := hj.1; simp; omega)))
  have hv5 := (hv5.mono prfOk (ok' := fun k => w1.heap.size ≤ k) (fun k hk => by omega)).bnd prfOk
  obtain ⟨A5, d5, e5, _, _⟩ := hv5.form
  subst e5
  have f6 : w6.frozen? ⟨w.heap.size, 6, none⟩ = false := frozen_at o6
  have k6 : (w6.cell? ⟨w.heap.size, 6, none⟩) = some (.slice A04 x.prefer.length d04) := cell_at o6 rfl
  clear g6 g0 c6 f5 k5 o5 p5
  have ob : (w6.setCell ⟨w.heap.size, 6, none⟩ (.slice A5 x.prefer.length d5)).heap[w.heap.size]? = some (.cells #[.string x.name, .slice A1 x.labels.length d1, .slice A2 x.needs.length d2, .slice A3 x.tols.length d3, .string x.req, .slice A4 x.apart.length d4, .slice A5 x.prefer.length d5, .int .i64 x.prio] 31 (0, 0)) := (heap_setCell_at o6).trans rfl
  have pb : (w6.setCell ⟨w.heap.size, 6, none⟩ (.slice A5 x.prefer.length d5)).heap[w.heap.size + 1]? = some (.cells #[.string ⟨#[]⟩, .slice none 0 0, .slice none 0 0, .slice none 0 0, .string ⟨#[]⟩, .slice none 0 0, .slice none 0 0, .int .i64 0] 31 (0, 0)) := (Below.heap_setCell _ _ _ _ (by simp)).trans p6
  have yy : ((w6.setCell ⟨w.heap.size, 6, none⟩ (.slice A5 x.prefer.length d5)).setRow (w.heap.size + 1) #[.string x.name, .slice A1 x.labels.length d1, .slice A2 x.needs.length d2, .slice A3 x.tols.length d3, .string x.req, .slice A4 x.apart.length d4, .slice A5 x.prefer.length d5, .int .i64 x.prio]).heap[w.heap.size + 1]? = some (.cells #[.string x.name, .slice A1 x.labels.length d1, .slice A2 x.needs.length d2, .slice A3 x.tols.length d3, .string x.req, .slice A4 x.apart.length d4, .slice A5 x.prefer.length d5, .int .i64 x.prio] 31 (0, 0)) := setRow_heap _ _ _ _ _ _ pb
  have hv := HR.out [.string x.name, .slice A1 x.labels.length d1, .slice A2 x.needs.length d2, .slice A3 x.tols.length d3, .string x.req, .slice A4 x.apart.length d4, .slice A5 x.prefer.length d5, .int .i64 x.prio] ((w6.setCell ⟨w.heap.size, 6, none⟩ (.slice A5 x.prefer.length d5)).setRow (w.heap.size + 1) #[.string x.name, .slice A1 x.labels.length d1, .slice A2 x.needs.length d2, .slice A3 x.tols.length d3, .string x.req, .slice A4 x.apart.length d4, .slice A5 x.prefer.length d5, .int .i64 x.prio]) (below_setRow (Below.setCell HB6.out (Nat.le_refl _) _) (by omega) _) ⟨_, _, _, _, _, rfl, (hv1.move labOk (fun j hj => (setRow_other _ _ _ _ (by have := hj.1; omega)).trans (Below.heap_setCell _ _ _ _ (by have := hj.1; simp; omega)))).mono labOk (fun k hk => by have := hk.1; have := HB1.out.size; omega), (hv2.move itmOk (fun j hj => (setRow_other _ _ _ _ (by have := hj.1; omega)).trans (Below.heap_setCell _ _ _ _ (by have := hj.1; simp; omega)))).mono itmOk (fun k hk => by have := hk.1; have := HB1.out.size; omega), (hv3.move tolOk (fun j hj => (setRow_other _ _ _ _ (by have := hj.1; omega)).trans (Below.heap_setCell _ _ _ _ (by have := hj.1; simp; omega)))).mono tolOk (fun k hk => by have := hk.1; have := HB1.out.size; omega), (hv4.move aptOk (fun j hj => (setRow_other _ _ _ _ (by have := hj.1; omega)).trans (Below.heap_setCell _ _ _ _ (by have := hj.1; simp; omega)))).mono aptOk (fun k hk => by have := hk.1; have := HB1.out.size; omega), (hv5.move prfOk (fun j hj => (setRow_other _ _ _ _ (by have := hj.1; omega)).trans (Below.heap_setCell _ _ _ _ (by have := hj.1; simp; omega)))).mono prfOk (fun k hk => by have := hk.1; have := HB1.out.size; omega)⟩
  go_wp2_with (first | (refine wpList_load_row rfl 31 _ rfl w.heap.size rfl 31 #[.string x.name, .slice A1 x.labels.length d1, .slice A2 x.needs.length d2, .slice A3 x.tols.length d3, .string x.req, .slice A4 x.apart.length d4, .slice A5 x.prefer.length d5, .int .i64 x.prio] (0, 0) _ ob Tryz.underlying31 rfl (by kernel_rfl) ?_) | (refine wpList_store_row rfl 31 _ _ rfl (w.heap.size + 1) #[.string x.name, .slice A1 x.labels.length d1, .slice A2 x.needs.length d2, .slice A3 x.tols.length d3, .string x.req, .slice A4 x.apart.length d4, .slice A5 x.prefer.length d5, .int .i64 x.prio] rfl rfl 31 #[.string ⟨#[]⟩, .slice none 0 0, .slice none 0 0, .slice none 0 0, .string ⟨#[]⟩, .slice none 0 0, .slice none 0 0, .int .i64 0] pb (by kernel_rfl) (by simp) (by simp [Value.oneCell']) ?_))
  exact bodyPost_ret (results_cell_row Tryz.results54 _ _ (w.heap.size + 1) 31 #[.string x.name, .slice A1 x.labels.length d1, .slice A2 x.needs.length d2, .slice A3 x.tols.length d3, .string x.req, .slice A4 x.apart.length d4, .slice A5 x.prefer.length d5, .int .i64 x.prio] (0, 0) _ rfl yy Tryz.underlying31 rfl (by kernel_rfl)) rfl hv
theorem ownNode_k (R : Ending → World → Prop) (w : World) (ok : Nat → Prop) (x : Nod) (cs : List Value) (hok : ∀ k, ok k → k < w.heap.size) (hx : nodK w ok x cs) (hs : NodShort x)
    (hR : ∀ cs' w', Below w.heap.size w w' → nodK w' (fun k => w.heap.size ≤ k) x cs' → R (.returned (.agg cs'.toArray)) w') :
    Calls Tryz.prog 94 #[.agg cs.toArray] w R := ownNodeR_k R w ok x cs hok hx hs (fun cs' w' g h => hR cs' w' g h.k)
theorem ownPod_k (R : Ending → World → Prop) (w : World) (ok : Nat → Prop) (x : Pd) (cs : List Value) (hok : ∀ k, ok k → k < w.heap.size) (hx : pdK w ok x cs) (hs : PdShort x)
    (hR : ∀ cs' w', Below w.heap.size w w' → pdK w' (fun k => w.heap.size ≤ k) x cs' → R (.returned (.agg cs'.toArray)) w') :
    Calls Tryz.prog 54 #[.agg cs.toArray] w R := ownPodR_k R w ok x cs hok hx hs (fun cs' w' g h => hR cs' w' g h.k)
end Go.Proofs.YtdceflgemhcgcaaGreatDoor
