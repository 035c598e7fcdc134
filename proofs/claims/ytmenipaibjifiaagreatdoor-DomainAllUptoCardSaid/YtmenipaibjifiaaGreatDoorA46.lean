/-
  berthlaw09: asks.
-/
import Derived.Test.YtmenipaibjifiaaGreatDoorA45
set_option linter.unusedVariables false
set_option linter.unusedSimpArgs false
namespace Go.Proofs.YtmenipaibjifiaaGreatDoor
open Go.RowKit Go.BigFrame Go.Shelf

theorem rKeysL_len {d : RDom} (Z : Sized d) : (rKeysL d).length ≤ 1073741824 := by
  have := keysTo_length Z d.nodes.length
  unfold keysTo at this
  rw [List.take_length] at this
  unfold rKeysL
  omega
set_option maxRecDepth 100000 in
set_option maxHeartbeats 40000000 in
theorem asks1_k (R : Ending → World → Prop) (w : World) (dv : Value) (d : RDom) (x : AskD) (vp : Value) (ok : Nat → Prop) (cd : List Value) (Q : Asked w dv d) (hok : ∀ k, ok k → k < w.heap.size) (hd : rdomK w ok d cd) (Z : Sized d) (hvp : SlK intsK 1 w ok vp x.pods) (hpl : x.pods.length ≤ 1073741824) (hk : x.kind = 1)
    (hR : ∀ w', Below w.heap.size w w' → R (.returned (.bool true)) w') :
    Calls Tryz.prog 14 #[dv, .agg cd.toArray, .agg (askC x vp)] w R := by
  have HKI := Lib.hid hk
  clear hk
  have HR := Lib.hid hR
  have HQ := Lib.hid Q
  have HOK0 := Lib.hid hok
  obtain ⟨vn, vq, rfl, hn, hp⟩ := hd
  obtain ⟨A, c, e, hlc, _⟩ := hn.form
  subst e
  obtain ⟨A2, c2, e2, hlc2, _⟩ := hp.form
  subst e2
  have hvp0 := hvp
  obtain ⟨Ap, cp, ep, hlp, _⟩ := hvp.form
  subst ep
  have hB0 : Below w.heap.size w ((w.alloc (.cells #[.slice A d.nodes.length c, .slice A2 d.pods.length c2] 29)).alloc (.cells (askC x (.slice Ap x.pods.length cp)) 45)) := Below.alloc (Below.alloc (Below.refl _ _) (Nat.le_refl _) _) (by simp) _
  have o0 : ((w.alloc (.cells #[.slice A d.nodes.length c, .slice A2 d.pods.length c2] 29)).alloc (.cells (askC x (.slice Ap x.pods.length cp)) 45)).heap[w.heap.size]? = some (.cells #[.slice A d.nodes.length c, .slice A2 d.pods.length c2] 29) := heap_keep (heap_alloc_new _ _) _
  have o1 : ((w.alloc (.cells #[.slice A d.nodes.length c, .slice A2 d.pods.length c2] 29)).alloc (.cells (askC x (.slice Ap x.pods.length cp)) 45)).heap[w.heap.size + 1]? = some (.cells (askC x (.slice Ap x.pods.length cp)) 45) := by
    have := heap_alloc_new (w.alloc (.cells #[.slice A d.nodes.length c, .slice A2 d.pods.length c2] 29)) (.cells (askC x (.slice Ap x.pods.length cp)) 45)
    rwa [World.size_alloc] at this
  have hrd0 : rdomK ((w.alloc (.cells #[.slice A d.nodes.length c, .slice A2 d.pods.length c2] 29)).alloc (.cells (askC x (.slice Ap x.pods.length cp)) 45)) ok d [.slice A d.nodes.length c, .slice A2 d.pods.length c2] := ⟨_, _, rfl, hn.below rnodeOk hB0 hok, hp.below rpodOk hB0 hok⟩
  have hpp0 := hvp0.below intOk hB0 hok
  have hok0 : ∀ k, ok k → k < ((w.alloc (.cells #[.slice A d.nodes.length c, .slice A2 d.pods.length c2] 29)).alloc (.cells (askC x (.slice Ap x.pods.length cp)) 45)).heap.size := fun k h => Nat.lt_of_lt_of_le (hok k h) hB0.size
  clear hR Q hok hn hp hvp hvp0
  go_enter Tryz.func14, Tryz.ntmps14
  go_upto_region 1 with fail
  generalize hW0 : (w.alloc (.cells #[.slice A d.nodes.length c, .slice A2 d.pods.length c2] 29)).alloc (.cells (askC x (.slice Ap x.pods.length cp)) 45) = w0 at *
  clear hW0
  have HB0 := Lib.hid hB0
  have hs0 := hB0.size
  have HRD := Lib.hid hrd0
  have HPP := Lib.hid hpp0
  have HOK := Lib.hid hok0
  have hzn := Z.n
  have hzp := Z.p
  have HZ := Lib.hid Z
  have q0 : w0.cell? ⟨w.heap.size, 0, none⟩ = some (.slice A d.nodes.length c) := cell_at o0 rfl
  have q1 : w0.cell? ⟨w.heap.size, 1, none⟩ = some (.slice A2 d.pods.length c2) := cell_at o0 rfl
  have k0 : w0.cell? ⟨w.heap.size + 1, 0, none⟩ = some (.int .i64 x.kind) := cell_at o1 rfl
  have k1 : w0.cell? ⟨w.heap.size + 1, 1, none⟩ = some (.string x.key) := cell_at o1 rfl
  have k2 : w0.cell? ⟨w.heap.size + 1, 2, none⟩ = some (.string x.value) := cell_at o1 rfl
  have k3 : w0.cell? ⟨w.heap.size + 1, 3, none⟩ = some (.string x.podKey) := cell_at o1 rfl
  have k4 : w0.cell? ⟨w.heap.size + 1, 4, none⟩ = some (.string x.podValue) := cell_at o1 rfl
  have k5 : w0.cell? ⟨w.heap.size + 1, 5, none⟩ = some (.int .i64 x.slot) := cell_at o1 rfl
  have k6 : w0.cell? ⟨w.heap.size + 1, 6, none⟩ = some (.slice Ap x.pods.length cp) := cell_at o1 rfl
  have k7 : w0.cell? ⟨w.heap.size + 1, 7, none⟩ = some (.int .i64 x.cmp) := cell_at o1 rfl
  have k8 : w0.cell? ⟨w.heap.size + 1, 8, none⟩ = some (.int .i64 x.n) := cell_at o1 rfl
  have hNL : ∀ x ∈ d.nodes, x.labels.length ≤ 1073741824 := fun y hy => by have := HZ.out.nl y hy; omega
  have HNL := Lib.hid hNL
  clear hB0 hrd0 hpp0 hok0 o0 o1 Z hNL
  have hk := HKI.out
  have hkk := k0
  rw [hk] at hkk
  clear k0 hk
  have HK := Lib.hid (show ∀ w', Below w0.heap.size w0 w' → Below w0.heap.size w0 w' ∧ w'.cell? ⟨w.heap.size, 0, none⟩ = some (.slice A d.nodes.length c) ∧ w'.cell? ⟨w.heap.size, 1, none⟩ = some (.slice A2 d.pods.length c2) from fun w' hw => ⟨hw, (Mod.of_below hw).cell' q0 (fun h => h), (Mod.of_below hw).cell' q1 (fun h => h)⟩)
  go_wp2_with fail
  go_region_held3 (fun w' => Below w0.heap.size w0 w' ∧ w'.cell? ⟨w.heap.size, 0, none⟩ = some (.slice A d.nodes.length c) ∧ w'.cell? ⟨w.heap.size, 1, none⟩ = some (.slice A2 d.pods.length c2))
    (first
    | exact HK.out _ (Below.refl _ w0).drew
    | exact HK.out _ y1
    | exact HK.out _ y2
    | exact HK.out _ y3)
    (first
    | (go_at_call 19; refine HQ.out.keys _ _ (HB0.out.trans ((Below.refl _ w0).drew.mono hs0)) ?_; intro v1 w1 g1 hl1
       have y1 : Below w0.heap.size w0 w1 := Below.of_drew g1)
    | (go_at_call 62; refine rkeys_k _ _ ok d [_, _] (fun k h => Nat.lt_of_lt_of_le (HOK.out k h) y1.size) (HRD.out.below y1 HOK.out) HZ.out ?_; intro v2 w2 b12 hl2
       have y2 : Below w0.heap.size w0 w2 := y1.trans (b12.mono y1.size))
    | (go_at_call 18; refine sameTexts_k _ _ (fun k => k < w2.heap.size) _ _ (rKeysL d) (rKeysL d) (fun k h => h) (SlK.mono strOk (SlK.below strOk (SlK.bnd strOk hl1) b12 (fun k h => h.2)) (fun k h => Nat.lt_of_lt_of_le h.2 b12.size)) (SlK.mono strOk (SlK.bnd strOk hl2) (fun k h => h.2)) (rKeysL_len HZ.out) (rKeysL_len HZ.out) ?_; intro w3 g3
       have y3 : Below w0.heap.size w0 w3 := y2.trans (g3.mono y2.size)
       rw [show decide (rKeysL d = rKeysL d) = true by simp]))
  all_goals (
    have hv := HR.out w3 (HB0.out.trans (y3.mono hs0))
    go_wp2_with fail
    exact hv)
set_option maxRecDepth 100000 in
set_option maxHeartbeats 40000000 in
theorem asks2_k (R : Ending → World → Prop) (w : World) (dv : Value) (d : RDom) (x : AskD) (vp : Value) (ok : Nat → Prop) (cd : List Value) (Q : Asked w dv d) (hok : ∀ k, ok k → k < w.heap.size) (hd : rdomK w ok d cd) (Z : Sized d) (hvp : SlK intsK 1 w ok vp x.pods) (hpl : x.pods.length ≤ 1073741824) (hk : x.kind = 2)
    (hR : ∀ w', Below w.heap.size w w' → R (.returned (.bool true)) w') :
    Calls Tryz.prog 14 #[dv, .agg cd.toArray, .agg (askC x vp)] w R := by
  have HKI := Lib.hid hk
  clear hk
  have HR := Lib.hid hR
  have HQ := Lib.hid Q
  have HOK0 := Lib.hid hok
  obtain ⟨vn, vq, rfl, hn, hp⟩ := hd
  obtain ⟨A, c, e, hlc, _⟩ := hn.form
  subst e
  obtain ⟨A2, c2, e2, hlc2, _⟩ := hp.form
  subst e2
  have hvp0 := hvp
  obtain ⟨Ap, cp, ep, hlp, _⟩ := hvp.form
  subst ep
  have hB0 : Below w.heap.size w ((w.alloc (.cells #[.slice A d.nodes.length c, .slice A2 d.pods.length c2] 29)).alloc (.cells (askC x (.slice Ap x.pods.length cp)) 45)) := Below.alloc (Below.alloc (Below.refl _ _) (Nat.le_refl _) _) (by simp) _
  have o0 : ((w.alloc (.cells #[.slice A d.nodes.length c, .slice A2 d.pods.length c2] 29)).alloc (.cells (askC x (.slice Ap x.pods.length cp)) 45)).heap[w.heap.size]? = some (.cells #[.slice A d.nodes.length c, .slice A2 d.pods.length c2] 29) := heap_keep (heap_alloc_new _ _) _
  have o1 : ((w.alloc (.cells #[.slice A d.nodes.length c, .slice A2 d.pods.length c2] 29)).alloc (.cells (askC x (.slice Ap x.pods.length cp)) 45)).heap[w.heap.size + 1]? = some (.cells (askC x (.slice Ap x.pods.length cp)) 45) := by
    have := heap_alloc_new (w.alloc (.cells #[.slice A d.nodes.length c, .slice A2 d.pods.length c2] 29)) (.cells (askC x (.slice Ap x.pods.length cp)) 45)
    rwa [World.size_alloc] at this
  have hrd0 : rdomK ((w.alloc (.cells #[.slice A d.nodes.length c, .slice A2 d.pods.length c2] 29)).alloc (.cells (askC x (.slice Ap x.pods.length cp)) 45)) ok d [.slice A d.nodes.length c, .slice A2 d.pods.length c2] := ⟨_, _, rfl, hn.below rnodeOk hB0 hok, hp.below rpodOk hB0 hok⟩
  have hpp0 := hvp0.below intOk hB0 hok
  have hok0 : ∀ k, ok k → k < ((w.alloc (.cells #[.slice A d.nodes.length c, .slice A2 d.pods.length c2] 29)).alloc (.cells (askC x (.slice Ap x.pods.length cp)) 45)).heap.size := fun k h => Nat.lt_of_lt_of_le (hok k h) hB0.size
  clear hR Q hok hn hp hvp hvp0
  go_enter Tryz.func14, Tryz.ntmps14
  go_upto_region 1 with fail
  generalize hW0 : (w.alloc (.cells #[.slice A d.nodes.length c, .slice A2 d.pods.length c2] 29)).alloc (.cells (askC x (.slice Ap x.pods.length cp)) 45) = w0 at *
  clear hW0
  have HB0 := Lib.hid hB0
  have hs0 := hB0.size
  have HRD := Lib.hid hrd0
  have HPP := Lib.hid hpp0
  have HOK := Lib.hid hok0
  have hzn := Z.n
  have hzp := Z.p
  have HZ := Lib.hid Z
  have q0 : w0.cell? ⟨w.heap.size, 0, none⟩ = some (.slice A d.nodes.length c) := cell_at o0 rfl
  have q1 : w0.cell? ⟨w.heap.size, 1, none⟩ = some (.slice A2 d.pods.length c2) := cell_at o0 rfl
  have k0 : w0.cell? ⟨w.heap.size + 1, 0, none⟩ = some (.int .i64 x.kind) := cell_at o1 rfl
  have k1 : w0.cell? ⟨w.heap.size + 1, 1, none⟩ = some (.string x.key) := cell_at o1 rfl
  have k2 : w0.cell? ⟨w.heap.size + 1, 2, none⟩ = some (.string x.value) := cell_at o1 rfl
  have k3 : w0.cell? ⟨w.heap.size + 1, 3, none⟩ = some (.string x.podKey) := cell_at o1 rfl
  have k4 : w0.cell? ⟨w.heap.size + 1, 4, none⟩ = some (.string x.podValue) := cell_at o1 rfl
  have k5 : w0.cell? ⟨w.heap.size + 1, 5, none⟩ = some (.int .i64 x.slot) := cell_at o1 rfl
  have k6 : w0.cell? ⟨w.heap.size + 1, 6, none⟩ = some (.slice Ap x.pods.length cp) := cell_at o1 rfl
  have k7 : w0.cell? ⟨w.heap.size + 1, 7, none⟩ = some (.int .i64 x.cmp) := cell_at o1 rfl
  have k8 : w0.cell? ⟨w.heap.size + 1, 8, none⟩ = some (.int .i64 x.n) := cell_at o1 rfl
  have hNL : ∀ x ∈ d.nodes, x.labels.length ≤ 1073741824 := fun y hy => by have := HZ.out.nl y hy; omega
  have HNL := Lib.hid hNL
  clear hB0 hrd0 hpp0 hok0 o0 o1 Z hNL
  have hk := HKI.out
  have hkk := k0
  rw [hk] at hkk
  clear k0 hk
  have HK := Lib.hid (show ∀ w', Below w0.heap.size w0 w' → Below w0.heap.size w0 w' ∧ w'.cell? ⟨w.heap.size, 0, none⟩ = some (.slice A d.nodes.length c) ∧ w'.cell? ⟨w.heap.size, 1, none⟩ = some (.slice A2 d.pods.length c2) ∧ w'.cell? ⟨w.heap.size + 1, 0, none⟩ = some (.int .i64 2) ∧ w'.cell? ⟨w.heap.size + 1, 1, none⟩ = some (.string x.key) ∧ w'.cell? ⟨w.heap.size + 1, 2, none⟩ = some (.string x.value) ∧ w'.cell? ⟨w.heap.size + 1, 3, none⟩ = some (.string x.podKey) ∧ w'.cell? ⟨w.heap.size + 1, 4, none⟩ = some (.string x.podValue) ∧ w'.cell? ⟨w.heap.size + 1, 5, none⟩ = some (.int .i64 x.slot) ∧ w'.cell? ⟨w.heap.size + 1, 6, none⟩ = some (.slice Ap x.pods.length cp) ∧ w'.cell? ⟨w.heap.size + 1, 7, none⟩ = some (.int .i64 x.cmp) ∧ w'.cell? ⟨w.heap.size + 1, 8, none⟩ = some (.int .i64 x.n) from fun w' hw => ⟨hw, (Mod.of_below hw).cell' q0 (fun h => h), (Mod.of_below hw).cell' q1 (fun h => h), (Mod.of_below hw).cell' hkk (fun h => h), (Mod.of_below hw).cell' k1 (fun h => h), (Mod.of_below hw).cell' k2 (fun h => h), (Mod.of_below hw).cell' k3 (fun h => h), (Mod.of_below hw).cell' k4 (fun h => h), (Mod.of_below hw).cell' k5 (fun h => h), (Mod.of_below hw).cell' k6 (fun h => h), (Mod.of_below hw).cell' k7 (fun h => h), (Mod.of_below hw).cell' k8 (fun h => h)⟩)
  go_wp2_with fail
  go_region_held3 (fun w' => Below w0.heap.size w0 w' ∧ w'.cell? ⟨w.heap.size, 0, none⟩ = some (.slice A d.nodes.length c) ∧ w'.cell? ⟨w.heap.size, 1, none⟩ = some (.slice A2 d.pods.length c2) ∧ w'.cell? ⟨w.heap.size + 1, 0, none⟩ = some (.int .i64 2) ∧ w'.cell? ⟨w.heap.size + 1, 1, none⟩ = some (.string x.key) ∧ w'.cell? ⟨w.heap.size + 1, 2, none⟩ = some (.string x.value) ∧ w'.cell? ⟨w.heap.size + 1, 3, none⟩ = some (.string x.podKey) ∧ w'.cell? ⟨w.heap.size + 1, 4, none⟩ = some (.string x.podValue) ∧ w'.cell? ⟨w.heap.size + 1, 5, none⟩ = some (.int .i64 x.slot) ∧ w'.cell? ⟨w.heap.size + 1, 6, none⟩ = some (.slice Ap x.pods.length cp) ∧ w'.cell? ⟨w.heap.size + 1, 7, none⟩ = some (.int .i64 x.cmp) ∧ w'.cell? ⟨w.heap.size + 1, 8, none⟩ = some (.int .i64 x.n))
    (first
    | exact HK.out _ (Below.refl _ w0).drew
    | exact HK.out _ y1
    | exact HK.out _ y2)
    (first
    | (go_at_call 64; refine rvalues_k _ _ ok d x.key [_, _] (fun k h => HOK.out k h) (rdomOk.move HRD.out (fun _ _ => rfl)) HZ.out ?_; intro v1 w1 g1 hl1
       have y1 : Below w0.heap.size w0 w1 := Below.of_drew g1)
    | (go_at_call 63; refine lawRows_k _ _ dv d ⟨2, x.key, x.value, x.podKey, x.podValue, x.slot, x.pods, x.cmp, x.n⟩ _ _ (rValuesL d x.key) (fun k => k < w1.heap.size) (HQ.out.below (HB0.out.trans (y1.mono hs0))) (fun k h => h) (SlK.mono intOk (HPP.out.below intOk y1 HOK.out) (fun k h => Nat.lt_of_lt_of_le (HOK.out k h) y1.size)) hpl (SlK.mono rrowOk (SlK.bnd rrowOk hl1) (fun k h => h.2)) (if_neg (show ¬ (2 : Int) = 8 by decide)).symm ?_; intro w2 g2
       have y2 : Below w0.heap.size w0 w2 := y1.trans (g2.mono y1.size)))
  all_goals (
    have hv := HR.out w2 (HB0.out.trans (y2.mono hs0))
    go_wp2_with fail
    exact hv)
set_option maxRecDepth 100000 in
set_option maxHeartbeats 40000000 in
theorem asks8_k (R : Ending → World → Prop) (w : World) (dv : Value) (d : RDom) (x : AskD) (vp : Value) (ok : Nat → Prop) (cd : List Value) (Q : Asked w dv d) (hok : ∀ k, ok k → k < w.heap.size) (hd : rdomK w ok d cd) (Z : Sized d) (hvp : SlK intsK 1 w ok vp x.pods) (hpl : x.pods.length ≤ 1073741824) (hk : x.kind = 8)
    (hR : ∀ w', Below w.heap.size w w' → R (.returned (.bool true)) w') :
    Calls Tryz.prog 14 #[dv, .agg cd.toArray, .agg (askC x vp)] w R := by
  have HKI := Lib.hid hk
  clear hk
  have HR := Lib.hid hR
  have HQ := Lib.hid Q
  have HOK0 := Lib.hid hok
  obtain ⟨vn, vq, rfl, hn, hp⟩ := hd
  obtain ⟨A, c, e, hlc, _⟩ := hn.form
  subst e
  obtain ⟨A2, c2, e2, hlc2, _⟩ := hp.form
  subst e2
  have hvp0 := hvp
  obtain ⟨Ap, cp, ep, hlp, _⟩ := hvp.form
  subst ep
  have hB0 : Below w.heap.size w ((w.alloc (.cells #[.slice A d.nodes.length c, .slice A2 d.pods.length c2] 29)).alloc (.cells (askC x (.slice Ap x.pods.length cp)) 45)) := Below.alloc (Below.alloc (Below.refl _ _) (Nat.le_refl _) _) (by simp) _
  have o0 : ((w.alloc (.cells #[.slice A d.nodes.length c, .slice A2 d.pods.length c2] 29)).alloc (.cells (askC x (.slice Ap x.pods.length cp)) 45)).heap[w.heap.size]? = some (.cells #[.slice A d.nodes.length c, .slice A2 d.pods.length c2] 29) := heap_keep (heap_alloc_new _ _) _
  have o1 : ((w.alloc (.cells #[.slice A d.nodes.length c, .slice A2 d.pods.length c2] 29)).alloc (.cells (askC x (.slice Ap x.pods.length cp)) 45)).heap[w.heap.size + 1]? = some (.cells (askC x (.slice Ap x.pods.length cp)) 45) := by
    have := heap_alloc_new (w.alloc (.cells #[.slice A d.nodes.length c, .slice A2 d.pods.length c2] 29)) (.cells (askC x (.slice Ap x.pods.length cp)) 45)
    rwa [World.size_alloc] at this
  have hrd0 : rdomK ((w.alloc (.cells #[.slice A d.nodes.length c, .slice A2 d.pods.length c2] 29)).alloc (.cells (askC x (.slice Ap x.pods.length cp)) 45)) ok d [.slice A d.nodes.length c, .slice A2 d.pods.length c2] := ⟨_, _, rfl, hn.below rnodeOk hB0 hok, hp.below rpodOk hB0 hok⟩
  have hpp0 := hvp0.below intOk hB0 hok
  have hok0 : ∀ k, ok k → k < ((w.alloc (.cells #[.slice A d.nodes.length c, .slice A2 d.pods.length c2] 29)).alloc (.cells (askC x (.slice Ap x.pods.length cp)) 45)).heap.size := fun k h => Nat.lt_of_lt_of_le (hok k h) hB0.size
  clear hR Q hok hn hp hvp hvp0
  go_enter Tryz.func14, Tryz.ntmps14
  go_upto_region 1 with fail
  generalize hW0 : (w.alloc (.cells #[.slice A d.nodes.length c, .slice A2 d.pods.length c2] 29)).alloc (.cells (askC x (.slice Ap x.pods.length cp)) 45) = w0 at *
  clear hW0
  have HB0 := Lib.hid hB0
  have hs0 := hB0.size
  have HRD := Lib.hid hrd0
  have HPP := Lib.hid hpp0
  have HOK := Lib.hid hok0
  have hzn := Z.n
  have hzp := Z.p
  have HZ := Lib.hid Z
  have q0 : w0.cell? ⟨w.heap.size, 0, none⟩ = some (.slice A d.nodes.length c) := cell_at o0 rfl
  have q1 : w0.cell? ⟨w.heap.size, 1, none⟩ = some (.slice A2 d.pods.length c2) := cell_at o0 rfl
  have k0 : w0.cell? ⟨w.heap.size + 1, 0, none⟩ = some (.int .i64 x.kind) := cell_at o1 rfl
  have k1 : w0.cell? ⟨w.heap.size + 1, 1, none⟩ = some (.string x.key) := cell_at o1 rfl
  have k2 : w0.cell? ⟨w.heap.size + 1, 2, none⟩ = some (.string x.value) := cell_at o1 rfl
  have k3 : w0.cell? ⟨w.heap.size + 1, 3, none⟩ = some (.string x.podKey) := cell_at o1 rfl
  have k4 : w0.cell? ⟨w.heap.size + 1, 4, none⟩ = some (.string x.podValue) := cell_at o1 rfl
  have k5 : w0.cell? ⟨w.heap.size + 1, 5, none⟩ = some (.int .i64 x.slot) := cell_at o1 rfl
  have k6 : w0.cell? ⟨w.heap.size + 1, 6, none⟩ = some (.slice Ap x.pods.length cp) := cell_at o1 rfl
  have k7 : w0.cell? ⟨w.heap.size + 1, 7, none⟩ = some (.int .i64 x.cmp) := cell_at o1 rfl
  have k8 : w0.cell? ⟨w.heap.size + 1, 8, none⟩ = some (.int .i64 x.n) := cell_at o1 rfl
  have hNL : ∀ x ∈ d.nodes, x.labels.length ≤ 1073741824 := fun y hy => by have := HZ.out.nl y hy; omega
  have HNL := Lib.hid hNL
  clear hB0 hrd0 hpp0 hok0 o0 o1 Z hNL
  have hk := HKI.out
  have hkk := k0
  rw [hk] at hkk
  clear k0 hk
  have HK := Lib.hid (show ∀ w', Below w0.heap.size w0 w' → Below w0.heap.size w0 w' ∧ w'.cell? ⟨w.heap.size, 0, none⟩ = some (.slice A d.nodes.length c) ∧ w'.cell? ⟨w.heap.size, 1, none⟩ = some (.slice A2 d.pods.length c2) ∧ w'.cell? ⟨w.heap.size + 1, 0, none⟩ = some (.int .i64 8) ∧ w'.cell? ⟨w.heap.size + 1, 1, none⟩ = some (.string x.key) ∧ w'.cell? ⟨w.heap.size + 1, 2, none⟩ = some (.string x.value) ∧ w'.cell? ⟨w.heap.size + 1, 3, none⟩ = some (.string x.podKey) ∧ w'.cell? ⟨w.heap.size + 1, 4, none⟩ = some (.string x.podValue) ∧ w'.cell? ⟨w.heap.size + 1, 5, none⟩ = some (.int .i64 x.slot) ∧ w'.cell? ⟨w.heap.size + 1, 6, none⟩ = some (.slice Ap x.pods.length cp) ∧ w'.cell? ⟨w.heap.size + 1, 7, none⟩ = some (.int .i64 x.cmp) ∧ w'.cell? ⟨w.heap.size + 1, 8, none⟩ = some (.int .i64 x.n) from fun w' hw => ⟨hw, (Mod.of_below hw).cell' q0 (fun h => h), (Mod.of_below hw).cell' q1 (fun h => h), (Mod.of_below hw).cell' hkk (fun h => h), (Mod.of_below hw).cell' k1 (fun h => h), (Mod.of_below hw).cell' k2 (fun h => h), (Mod.of_below hw).cell' k3 (fun h => h), (Mod.of_below hw).cell' k4 (fun h => h), (Mod.of_below hw).cell' k5 (fun h => h), (Mod.of_below hw).cell' k6 (fun h => h), (Mod.of_below hw).cell' k7 (fun h => h), (Mod.of_below hw).cell' k8 (fun h => h)⟩)
  go_wp2_with fail
  go_region_held3 (fun w' => Below w0.heap.size w0 w' ∧ w'.cell? ⟨w.heap.size, 0, none⟩ = some (.slice A d.nodes.length c) ∧ w'.cell? ⟨w.heap.size, 1, none⟩ = some (.slice A2 d.pods.length c2) ∧ w'.cell? ⟨w.heap.size + 1, 0, none⟩ = some (.int .i64 8) ∧ w'.cell? ⟨w.heap.size + 1, 1, none⟩ = some (.string x.key) ∧ w'.cell? ⟨w.heap.size + 1, 2, none⟩ = some (.string x.value) ∧ w'.cell? ⟨w.heap.size + 1, 3, none⟩ = some (.string x.podKey) ∧ w'.cell? ⟨w.heap.size + 1, 4, none⟩ = some (.string x.podValue) ∧ w'.cell? ⟨w.heap.size + 1, 5, none⟩ = some (.int .i64 x.slot) ∧ w'.cell? ⟨w.heap.size + 1, 6, none⟩ = some (.slice Ap x.pods.length cp) ∧ w'.cell? ⟨w.heap.size + 1, 7, none⟩ = some (.int .i64 x.cmp) ∧ w'.cell? ⟨w.heap.size + 1, 8, none⟩ = some (.int .i64 x.n))
    (first
    | exact HK.out _ (Below.refl _ w0).drew
    | exact HK.out _ y1
    | exact HK.out _ y2)
    (first
    | (go_at_call 67; refine rtally_k _ _ ok d x.key _ x.pods [_, _] (fun k h => HOK.out k h) (rdomOk.move HRD.out (fun _ _ => rfl)) HZ.out (SlK.move intOk HPP.out (fun _ _ => rfl)) hpl ?_; intro v1 w1 g1 hl1
       have y1 : Below w0.heap.size w0 w1 := Below.of_drew g1)
    | (go_at_call 63; refine lawRows_k _ _ dv d ⟨8, x.key, x.value, x.podKey, x.podValue, x.slot, x.pods, x.cmp, x.n⟩ _ _ (rTallyL d x.key x.pods) (fun k => k < w1.heap.size) (HQ.out.below (HB0.out.trans (y1.mono hs0))) (fun k h => h) (SlK.mono intOk (HPP.out.below intOk y1 HOK.out) (fun k h => Nat.lt_of_lt_of_le (HOK.out k h) y1.size)) hpl (SlK.mono rrowOk (SlK.bnd rrowOk hl1) (fun k h => h.2)) (if_pos rfl).symm ?_; intro w2 g2
       have y2 : Below w0.heap.size w0 w2 := y1.trans (g2.mono y1.size)))
  all_goals (
    have hv := HR.out w2 (HB0.out.trans (y2.mono hs0))
    go_wp2_with fail
    exact hv)
set_option maxRecDepth 100000 in
set_option maxHeartbeats 40000000 in
theorem asks3_k (R : Ending → World → Prop) (w : World) (dv : Value) (d : RDom) (x : AskD) (vp : Value) (ok : Nat → Prop) (cd : List Value) (Q : Asked w dv d) (hok : ∀ k, ok k → k < w.heap.size) (hd : rdomK w ok d cd) (Z : Sized d) (hvp : SlK intsK 1 w ok vp x.pods) (hpl : x.pods.length ≤ 1073741824) (hk : x.kind = 3)
    (hR : ∀ w', Below w.heap.size w w' → R (.returned (.bool true)) w') :
    Calls Tryz.prog 14 #[dv, .agg cd.toArray, .agg (askC x vp)] w R := by
  have HKI := Lib.hid hk
  clear hk
  have HR := Lib.hid hR
  have HQ := Lib.hid Q
  have HOK0 := Lib.hid hok
  obtain ⟨vn, vq, rfl, hn, hp⟩ := hd
  obtain ⟨A, c, e, hlc, _⟩ := hn.form
  subst e
  obtain ⟨A2, c2, e2, hlc2, _⟩ := hp.form
  subst e2
  have hvp0 := hvp
  obtain ⟨Ap, cp, ep, hlp, _⟩ := hvp.form
  subst ep
  have hB0 : Below w.heap.size w ((w.alloc (.cells #[.slice A d.nodes.length c, .slice A2 d.pods.length c2] 29)).alloc (.cells (askC x (.slice Ap x.pods.length cp)) 45)) := Below.alloc (Below.alloc (Below.refl _ _) (Nat.le_refl _) _) (by simp) _
  have o0 : ((w.alloc (.cells #[.slice A d.nodes.length c, .slice A2 d.pods.length c2] 29)).alloc (.cells (askC x (.slice Ap x.pods.length cp)) 45)).heap[w.heap.size]? = some (.cells #[.slice A d.nodes.length c, .slice A2 d.pods.length c2] 29) := heap_keep (heap_alloc_new _ _) _
  have o1 : ((w.alloc (.cells #[.slice A d.nodes.length c, .slice A2 d.pods.length c2] 29)).alloc (.cells (askC x (.slice Ap x.pods.length cp)) 45)).heap[w.heap.size + 1]? = some (.cells (askC x (.slice Ap x.pods.length cp)) 45) := by
    have := heap_alloc_new (w.alloc (.cells #[.slice A d.nodes.length c, .slice A2 d.pods.length c2] 29)) (.cells (askC x (.slice Ap x.pods.length cp)) 45)
    rwa [World.size_alloc] at this
  have hrd0 : rdomK ((w.alloc (.cells #[.slice A d.nodes.length c, .slice A2 d.pods.length c2] 29)).alloc (.cells (askC x (.slice Ap x.pods.length cp)) 45)) ok d [.slice A d.nodes.length c, .slice A2 d.pods.length c2] := ⟨_, _, rfl, hn.below rnodeOk hB0 hok, hp.below rpodOk hB0 hok⟩
  have hpp0 := hvp0.below intOk hB0 hok
  have hok0 : ∀ k, ok k → k < ((w.alloc (.cells #[.slice A d.nodes.length c, .slice A2 d.pods.length c2] 29)).alloc (.cells (askC x (.slice Ap x.pods.length cp)) 45)).heap.size := fun k h => Nat.lt_of_lt_of_le (hok k h) hB0.size
  clear hR Q hok hn hp hvp hvp0
  go_enter Tryz.func14, Tryz.ntmps14
  go_upto_region 1 with fail
  generalize hW0 : (w.alloc (.cells #[.slice A d.nodes.length c, .slice A2 d.pods.length c2] 29)).alloc (.cells (askC x (.slice Ap x.pods.length cp)) 45) = w0 at *
  clear hW0
  have HB0 := Lib.hid hB0
  have hs0 := hB0.size
  have HRD := Lib.hid hrd0
  have HPP := Lib.hid hpp0
  have HOK := Lib.hid hok0
  have hzn := Z.n
  have hzp := Z.p
  have HZ := Lib.hid Z
  have q0 : w0.cell? ⟨w.heap.size, 0, none⟩ = some (.slice A d.nodes.length c) := cell_at o0 rfl
  have q1 : w0.cell? ⟨w.heap.size, 1, none⟩ = some (.slice A2 d.pods.length c2) := cell_at o0 rfl
  have k0 : w0.cell? ⟨w.heap.size + 1, 0, none⟩ = some (.int .i64 x.kind) := cell_at o1 rfl
  have k1 : w0.cell? ⟨w.heap.size + 1, 1, none⟩ = some (.string x.key) := cell_at o1 rfl
  have k2 : w0.cell? ⟨w.heap.size + 1, 2, none⟩ = some (.string x.value) := cell_at o1 rfl
  have k3 : w0.cell? ⟨w.heap.size + 1, 3, none⟩ = some (.string x.podKey) := cell_at o1 rfl
  have k4 : w0.cell? ⟨w.heap.size + 1, 4, none⟩ = some (.string x.podValue) := cell_at o1 rfl
  have k5 : w0.cell? ⟨w.heap.size + 1, 5, none⟩ = some (.int .i64 x.slot) := cell_at o1 rfl
  have k6 : w0.cell? ⟨w.heap.size + 1, 6, none⟩ = some (.slice Ap x.pods.length cp) := cell_at o1 rfl
  have k7 : w0.cell? ⟨w.heap.size + 1, 7, none⟩ = some (.int .i64 x.cmp) := cell_at o1 rfl
  have k8 : w0.cell? ⟨w.heap.size + 1, 8, none⟩ = some (.int .i64 x.n) := cell_at o1 rfl
  have hNL : ∀ x ∈ d.nodes, x.labels.length ≤ 1073741824 := fun y hy => by have := HZ.out.nl y hy; omega
  have HNL := Lib.hid hNL
  clear hB0 hrd0 hpp0 hok0 o0 o1 Z hNL
  have hk := HKI.out
  have hkk := k0
  rw [hk] at hkk
  clear k0 hk
  obtain ⟨s, hs⟩ : ∃ s, (rOf d x.key x.slot).getD ⟨#[]⟩ = s := ⟨_, rfl⟩
  obtain ⟨b, hb⟩ : ∃ b, (rOf d x.key x.slot).isSome = b := ⟨_, rfl⟩
  have HG := Lib.hid (show (rOf d x.key x.slot).getD ⟨#[]⟩ = s ∧ (rOf d x.key x.slot).isSome = b from ⟨hs, hb⟩)
  clear hs hb
  go_wp2_with fail
  refine HQ.out.of _ _ x.key x.slot HB0.out ?_
  intro w1 g1
  unfold getV
  rw [HG.out.1, HG.out.2]
  have Y1 := Lib.hid g1
  have q01 := (Mod.of_below g1).cell' q0 (fun h => h)
  have q11 := (Mod.of_below g1).cell' q1 (fun h => h)
  have k11 := (Mod.of_below g1).cell' k1 (fun h => h)
  have k51 := (Mod.of_below g1).cell' k5 (fun h => h)
  have hs1 := g1.size
  clear g1
  go_wp2_with fail
  refine rof_t _ _ ok d x.key x.slot [_, _] s b HG.out (fun k h => Nat.lt_of_lt_of_le (HOK.out k h) hs1) (HRD.out.below Y1.out HOK.out) (by omega) HNL.out ?_
  intro w2 g2
  have hv := HR.out w2 (HB0.out.trans ((Y1.out.trans (g2.mono hs1)).mono hs0))
  have t1 : (s.toList == s.toList) = true := by simp
  have t2 : (b == b) = true := by simp
  clear g2
  go_wp2_with fail
  exact hv
set_option maxRecDepth 100000 in
set_option maxHeartbeats 40000000 in
theorem asks6_k (R : Ending → World → Prop) (w : World) (dv : Value) (d : RDom) (x : AskD) (vp : Value) (ok : Nat → Prop) (cd : List Value) (Q : Asked w dv d) (hok : ∀ k, ok k → k < w.heap.size) (hd : rdomK w ok d cd) (Z : Sized d) (hvp : SlK intsK 1 w ok vp x.pods) (hpl : x.pods.length ≤ 1073741824) (hk : x.kind = 6)
    (hR : ∀ w', Below w.heap.size w w' → R (.returned (.bool true)) w') :
    Calls Tryz.prog 14 #[dv, .agg cd.toArray, .agg (askC x vp)] w R := by
  have HKI := Lib.hid hk
  clear hk
  have HR := Lib.hid hR
  have HQ := Lib.hid Q
  have HOK0 := Lib.hid hok
  obtain ⟨vn, vq, rfl, hn, hp⟩ := hd
  obtain ⟨A, c, e, hlc, _⟩ := hn.form
  subst e
  obtain ⟨A2, c2, e2, hlc2, _⟩ := hp.form
  subst e2
  have hvp0 := hvp
  obtain ⟨Ap, cp, ep, hlp, _⟩ := hvp.form
  subst ep
  have hB0 : Below w.heap.size w ((w.alloc (.cells #[.slice A d.nodes.length c, .slice A2 d.pods.length c2] 29)).alloc (.cells (askC x (.slice Ap x.pods.length cp)) 45)) := Below.alloc (Below.alloc (Below.refl _ _) (Nat.le_refl _) _) (by simp) _
  have o0 : ((w.alloc (.cells #[.slice A d.nodes.length c, .slice A2 d.pods.length c2] 29)).alloc (.cells (askC x (.slice Ap x.pods.length cp)) 45)).heap[w.heap.size]? = some (.cells #[.slice A d.nodes.length c, .slice A2 d.pods.length c2] 29) := heap_keep (heap_alloc_new _ _) _
  have o1 : ((w.alloc (.cells #[.slice A d.nodes.length c, .slice A2 d.pods.length c2] 29)).alloc (.cells (askC x (.slice Ap x.pods.length cp)) 45)).heap[w.heap.size + 1]? = some (.cells (askC x (.slice Ap x.pods.length cp)) 45) := by
    have := heap_alloc_new (w.alloc (.cells #[.slice A d.nodes.length c, .slice A2 d.pods.length c2] 29)) (.cells (askC x (.slice Ap x.pods.length cp)) 45)
    rwa [World.size_alloc] at this
  have hrd0 : rdomK ((w.alloc (.cells #[.slice A d.nodes.length c, .slice A2 d.pods.length c2] 29)).alloc (.cells (askC x (.slice Ap x.pods.length cp)) 45)) ok d [.slice A d.nodes.length c, .slice A2 d.pods.length c2] := ⟨_, _, rfl, hn.below rnodeOk hB0 hok, hp.below rpodOk hB0 hok⟩
  have hpp0 := hvp0.below intOk hB0 hok
  have hok0 : ∀ k, ok k → k < ((w.alloc (.cells #[.slice A d.nodes.length c, .slice A2 d.pods.length c2] 29)).alloc (.cells (askC x (.slice Ap x.pods.length cp)) 45)).heap.size := fun k h => Nat.lt_of_lt_of_le (hok k h) hB0.size
  clear hR Q hok hn hp hvp hvp0
  go_enter Tryz.func14, Tryz.ntmps14
  go_upto_region 1 with fail
  generalize hW0 : (w.alloc (.cells #[.slice A d.nodes.length c, .slice A2 d.pods.length c2] 29)).alloc (.cells (askC x (.slice Ap x.pods.length cp)) 45) = w0 at *
  clear hW0
  have HB0 := Lib.hid hB0
  have hs0 := hB0.size
  have HRD := Lib.hid hrd0
  have HPP := Lib.hid hpp0
  have HOK := Lib.hid hok0
  have hzn := Z.n
  have hzp := Z.p
  have HZ := Lib.hid Z
  have q0 : w0.cell? ⟨w.heap.size, 0, none⟩ = some (.slice A d.nodes.length c) := cell_at o0 rfl
  have q1 : w0.cell? ⟨w.heap.size, 1, none⟩ = some (.slice A2 d.pods.length c2) := cell_at o0 rfl
  have k0 : w0.cell? ⟨w.heap.size + 1, 0, none⟩ = some (.int .i64 x.kind) := cell_at o1 rfl
  have k1 : w0.cell? ⟨w.heap.size + 1, 1, none⟩ = some (.string x.key) := cell_at o1 rfl
  have k2 : w0.cell? ⟨w.heap.size + 1, 2, none⟩ = some (.string x.value) := cell_at o1 rfl
  have k3 : w0.cell? ⟨w.heap.size + 1, 3, none⟩ = some (.string x.podKey) := cell_at o1 rfl
  have k4 : w0.cell? ⟨w.heap.size + 1, 4, none⟩ = some (.string x.podValue) := cell_at o1 rfl
  have k5 : w0.cell? ⟨w.heap.size + 1, 5, none⟩ = some (.int .i64 x.slot) := cell_at o1 rfl
  have k6 : w0.cell? ⟨w.heap.size + 1, 6, none⟩ = some (.slice Ap x.pods.length cp) := cell_at o1 rfl
  have k7 : w0.cell? ⟨w.heap.size + 1, 7, none⟩ = some (.int .i64 x.cmp) := cell_at o1 rfl
  have k8 : w0.cell? ⟨w.heap.size + 1, 8, none⟩ = some (.int .i64 x.n) := cell_at o1 rfl
  have hNL : ∀ x ∈ d.nodes, x.labels.length ≤ 1073741824 := fun y hy => by have := HZ.out.nl y hy; omega
  have HNL := Lib.hid hNL
  clear hB0 hrd0 hpp0 hok0 o0 o1 Z hNL
  have hk := HKI.out
  have hkk := k0
  rw [hk] at hkk
  clear k0 hk
  have HK := Lib.hid (show ∀ w', Below w0.heap.size w0 w' → Below w0.heap.size w0 w' ∧ w'.cell? ⟨w.heap.size, 0, none⟩ = some (.slice A d.nodes.length c) ∧ w'.cell? ⟨w.heap.size, 1, none⟩ = some (.slice A2 d.pods.length c2) ∧ w'.cell? ⟨w.heap.size + 1, 1, none⟩ = some (.string x.key) ∧ w'.cell? ⟨w.heap.size + 1, 2, none⟩ = some (.string x.value) ∧ w'.cell? ⟨w.heap.size + 1, 3, none⟩ = some (.string x.podKey) ∧ w'.cell? ⟨w.heap.size + 1, 4, none⟩ = some (.string x.podValue) from fun w' hw => ⟨hw, (Mod.of_below hw).cell' q0 (fun h => h), (Mod.of_below hw).cell' q1 (fun h => h), (Mod.of_below hw).cell' k1 (fun h => h), (Mod.of_below hw).cell' k2 (fun h => h), (Mod.of_below hw).cell' k3 (fun h => h), (Mod.of_below hw).cell' k4 (fun h => h)⟩)
  have t1 : (((rCountN d x.key x.value x.podKey x.podValue : Nat) : Int) == ((rCountN d x.key x.value x.podKey x.podValue : Nat) : Int)) = true := by simp
  go_wp2_with fail
  go_region_held3 (fun w' => Below w0.heap.size w0 w' ∧ w'.cell? ⟨w.heap.size, 0, none⟩ = some (.slice A d.nodes.length c) ∧ w'.cell? ⟨w.heap.size, 1, none⟩ = some (.slice A2 d.pods.length c2) ∧ w'.cell? ⟨w.heap.size + 1, 1, none⟩ = some (.string x.key) ∧ w'.cell? ⟨w.heap.size + 1, 2, none⟩ = some (.string x.value) ∧ w'.cell? ⟨w.heap.size + 1, 3, none⟩ = some (.string x.podKey) ∧ w'.cell? ⟨w.heap.size + 1, 4, none⟩ = some (.string x.podValue))
    (first
    | exact HK.out _ (Below.refl _ w0).drew
    | exact HK.out _ y1
    | exact HK.out _ y2)
    (first
    | (go_at_call 48; refine HQ.out.count _ _ x.key x.value x.podKey x.podValue (HB0.out.trans ((Below.refl _ w0).drew.mono hs0)) ?_; intro w1 g1
       have y1 : Below w0.heap.size w0 w1 := Below.of_drew g1)
    | (go_at_call 66; refine rcount_k _ _ ok d x.key x.value x.podKey x.podValue [_, _] (fun k h => Nat.lt_of_lt_of_le (HOK.out k h) y1.size) (HRD.out.below y1 HOK.out) HZ.out ?_; intro w2 b12
       have y2 : Below w0.heap.size w0 w2 := y1.trans (b12.mono y1.size)))
  all_goals (
    have hv := HR.out w2 (HB0.out.trans (y2.mono hs0))
    go_wp2_with fail
    exact hv)
set_option maxRecDepth 100000 in
set_option maxHeartbeats 40000000 in
theorem asksS4_k (R : Ending → World → Prop) (w : World) (dv : Value) (d : RDom) (x : AskD) (vp : Value) (ok : Nat → Prop) (cd : List Value) (Q : Asked w dv d) (hok : ∀ k, ok k → k < w.heap.size) (hd : rdomK w ok d cd) (Z : Sized d) (hvp : SlK intsK 1 w ok vp x.pods) (hpl : x.pods.length ≤ 1073741824) (hk : x.kind = 4)
    (hR : ∀ w', Below w.heap.size w w' → R (.returned (.bool true)) w') :
    Calls Tryz.prog 14 #[dv, .agg cd.toArray, .agg (askC x vp)] w R := by
  have HKI := Lib.hid hk
  clear hk
  have HR := Lib.hid hR
  have HQ := Lib.hid Q
  have HOK0 := Lib.hid hok
  obtain ⟨vn, vq, rfl, hn, hp⟩ := hd
  obtain ⟨A, c, e, hlc, _⟩ := hn.form
  subst e
  obtain ⟨A2, c2, e2, hlc2, _⟩ := hp.form
  subst e2
  have hvp0 := hvp
  obtain ⟨Ap, cp, ep, hlp, _⟩ := hvp.form
  subst ep
  have hB0 : Below w.heap.size w ((w.alloc (.cells #[.slice A d.nodes.length c, .slice A2 d.pods.length c2] 29)).alloc (.cells (askC x (.slice Ap x.pods.length cp)) 45)) := Below.alloc (Below.alloc (Below.refl _ _) (Nat.le_refl _) _) (by simp) _
  have o0 : ((w.alloc (.cells #[.slice A d.nodes.length c, .slice A2 d.pods.length c2] 29)).alloc (.cells (askC x (.slice Ap x.pods.length cp)) 45)).heap[w.heap.size]? = some (.cells #[.slice A d.nodes.length c, .slice A2 d.pods.length c2] 29) := heap_keep (heap_alloc_new _ _) _
  have o1 : ((w.alloc (.cells #[.slice A d.nodes.length c, .slice A2 d.pods.length c2] 29)).alloc (.cells (askC x (.slice Ap x.pods.length cp)) 45)).heap[w.heap.size + 1]? = some (.cells (askC x (.slice Ap x.pods.length cp)) 45) := by
    have := heap_alloc_new (w.alloc (.cells #[.slice A d.nodes.length c, .slice A2 d.pods.length c2] 29)) (.cells (askC x (.slice Ap x.pods.length cp)) 45)
    rwa [World.size_alloc] at this
  have hrd0 : rdomK ((w.alloc (.cells #[.slice A d.nodes.length c, .slice A2 d.pods.length c2] 29)).alloc (.cells (askC x (.slice Ap x.pods.length cp)) 45)) ok d [.slice A d.nodes.length c, .slice A2 d.pods.length c2] := ⟨_, _, rfl, hn.below rnodeOk hB0 hok, hp.below rpodOk hB0 hok⟩
  have hpp0 := hvp0.below intOk hB0 hok
  have hok0 : ∀ k, ok k → k < ((w.alloc (.cells #[.slice A d.nodes.length c, .slice A2 d.pods.length c2] 29)).alloc (.cells (askC x (.slice Ap x.pods.length cp)) 45)).heap.size := fun k h => Nat.lt_of_lt_of_le (hok k h) hB0.size
  clear hR Q hok hn hp hvp hvp0
  go_enter Tryz.func14, Tryz.ntmps14
  go_upto_region 1 with fail
  generalize hW0 : (w.alloc (.cells #[.slice A d.nodes.length c, .slice A2 d.pods.length c2] 29)).alloc (.cells (askC x (.slice Ap x.pods.length cp)) 45) = w0 at *
  clear hW0
  have HB0 := Lib.hid hB0
  have hs0 := hB0.size
  have HRD := Lib.hid hrd0
  have HPP := Lib.hid hpp0
  have HOK := Lib.hid hok0
  have hzn := Z.n
  have hzp := Z.p
  have HZ := Lib.hid Z
  have q0 : w0.cell? ⟨w.heap.size, 0, none⟩ = some (.slice A d.nodes.length c) := cell_at o0 rfl
  have q1 : w0.cell? ⟨w.heap.size, 1, none⟩ = some (.slice A2 d.pods.length c2) := cell_at o0 rfl
  have k0 : w0.cell? ⟨w.heap.size + 1, 0, none⟩ = some (.int .i64 x.kind) := cell_at o1 rfl
  have k1 : w0.cell? ⟨w.heap.size + 1, 1, none⟩ = some (.string x.key) := cell_at o1 rfl
  have k2 : w0.cell? ⟨w.heap.size + 1, 2, none⟩ = some (.string x.value) := cell_at o1 rfl
  have k3 : w0.cell? ⟨w.heap.size + 1, 3, none⟩ = some (.string x.podKey) := cell_at o1 rfl
  have k4 : w0.cell? ⟨w.heap.size + 1, 4, none⟩ = some (.string x.podValue) := cell_at o1 rfl
  have k5 : w0.cell? ⟨w.heap.size + 1, 5, none⟩ = some (.int .i64 x.slot) := cell_at o1 rfl
  have k6 : w0.cell? ⟨w.heap.size + 1, 6, none⟩ = some (.slice Ap x.pods.length cp) := cell_at o1 rfl
  have k7 : w0.cell? ⟨w.heap.size + 1, 7, none⟩ = some (.int .i64 x.cmp) := cell_at o1 rfl
  have k8 : w0.cell? ⟨w.heap.size + 1, 8, none⟩ = some (.int .i64 x.n) := cell_at o1 rfl
  have hNL : ∀ x ∈ d.nodes, x.labels.length ≤ 1073741824 := fun y hy => by have := HZ.out.nl y hy; omega
  have HNL := Lib.hid hNL
  clear hB0 hrd0 hpp0 hok0 o0 o1 Z hNL
  have hk := HKI.out
  have hkk := k0
  rw [hk] at hkk
  clear k0 hk
  go_wp2_with fail
  refine sets_k _ _ dv d ⟨4, x.key, x.value, x.podKey, x.podValue, x.slot, x.pods, x.cmp, x.n⟩ _ ok [_, _] (HQ.out.below HB0.out) HOK.out HRD.out HZ.out HPP.out hpl ?_
  intro w1 g1
  have hv := HR.out w1 (HB0.out.trans (g1.mono hs0))
  clear g1
  go_wp2_with fail
  exact hv
set_option maxRecDepth 100000 in
set_option maxHeartbeats 40000000 in
theorem asksS5_k (R : Ending → World → Prop) (w : World) (dv : Value) (d : RDom) (x : AskD) (vp : Value) (ok : Nat → Prop) (cd : List Value) (Q : Asked w dv d) (hok : ∀ k, ok k → k < w.heap.size) (hd : rdomK w ok d cd) (Z : Sized d) (hvp : SlK intsK 1 w ok vp x.pods) (hpl : x.pods.length ≤ 1073741824) (hk : x.kind = 5)
    (hR : ∀ w', Below w.heap.size w w' → R (.returned (.bool true)) w') :
    Calls Tryz.prog 14 #[dv, .agg cd.toArray, .agg (askC x vp)] w R := by
  have HKI := Lib.hid hk
  clear hk
  have HR := Lib.hid hR
  have HQ := Lib.hid Q
  have HOK0 := Lib.hid hok
  obtain ⟨vn, vq, rfl, hn, hp⟩ := hd
  obtain ⟨A, c, e, hlc, _⟩ := hn.form
  subst e
  obtain ⟨A2, c2, e2, hlc2, _⟩ := hp.form
  subst e2
  have hvp0 := hvp
  obtain ⟨Ap, cp, ep, hlp, _⟩ := hvp.form
  subst ep
  have hB0 : Below w.heap.size w ((w.alloc (.cells #[.slice A d.nodes.length c, .slice A2 d.pods.length c2] 29)).alloc (.cells (askC x (.slice Ap x.pods.length cp)) 45)) := Below.alloc (Below.alloc (Below.refl _ _) (Nat.le_refl _) _) (by simp) _
  have o0 : ((w.alloc (.cells #[.slice A d.nodes.length c, .slice A2 d.pods.length c2] 29)).alloc (.cells (askC x (.slice Ap x.pods.length cp)) 45)).heap[w.heap.size]? = some (.cells #[.slice A d.nodes.length c, .slice A2 d.pods.length c2] 29) := heap_keep (heap_alloc_new _ _) _
  have o1 : ((w.alloc (.cells #[.slice A d.nodes.length c, .slice A2 d.pods.length c2] 29)).alloc (.cells (askC x (.slice Ap x.pods.length cp)) 45)).heap[w.heap.size + 1]? = some (.cells (askC x (.slice Ap x.pods.length cp)) 45) := by
    have := heap_alloc_new (w.alloc (.cells #[.slice A d.nodes.length c, .slice A2 d.pods.length c2] 29)) (.cells (askC x (.slice Ap x.pods.length cp)) 45)
    rwa [World.size_alloc] at this
  have hrd0 : rdomK ((w.alloc (.cells #[.slice A d.nodes.length c, .slice A2 d.pods.length c2] 29)).alloc (.cells (askC x (.slice Ap x.pods.length cp)) 45)) ok d [.slice A d.nodes.length c, .slice A2 d.pods.length c2] := ⟨_, _, rfl, hn.below rnodeOk hB0 hok, hp.below rpodOk hB0 hok⟩
  have hpp0 := hvp0.below intOk hB0 hok
  have hok0 : ∀ k, ok k → k < ((w.alloc (.cells #[.slice A d.nodes.length c, .slice A2 d.pods.length c2] 29)).alloc (.cells (askC x (.slice Ap x.pods.length cp)) 45)).heap.size := fun k h => Nat.lt_of_lt_of_le (hok k h) hB0.size
  clear hR Q hok hn hp hvp hvp0
  go_enter Tryz.func14, Tryz.ntmps14
  go_upto_region 1 with fail
  generalize hW0 : (w.alloc (.cells #[.slice A d.nodes.length c, .slice A2 d.pods.length c2] 29)).alloc (.cells (askC x (.slice Ap x.pods.length cp)) 45) = w0 at *
  clear hW0
  have HB0 := Lib.hid hB0
  have hs0 := hB0.size
  have HRD := Lib.hid hrd0
  have HPP := Lib.hid hpp0
  have HOK := Lib.hid hok0
  have hzn := Z.n
  have hzp := Z.p
  have HZ := Lib.hid Z
  have q0 : w0.cell? ⟨w.heap.size, 0, none⟩ = some (.slice A d.nodes.length c) := cell_at o0 rfl
  have q1 : w0.cell? ⟨w.heap.size, 1, none⟩ = some (.slice A2 d.pods.length c2) := cell_at o0 rfl
  have k0 : w0.cell? ⟨w.heap.size + 1, 0, none⟩ = some (.int .i64 x.kind) := cell_at o1 rfl
  have k1 : w0.cell? ⟨w.heap.size + 1, 1, none⟩ = some (.string x.key) := cell_at o1 rfl
  have k2 : w0.cell? ⟨w.heap.size + 1, 2, none⟩ = some (.string x.value) := cell_at o1 rfl
  have k3 : w0.cell? ⟨w.heap.size + 1, 3, none⟩ = some (.string x.podKey) := cell_at o1 rfl
  have k4 : w0.cell? ⟨w.heap.size + 1, 4, none⟩ = some (.string x.podValue) := cell_at o1 rfl
  have k5 : w0.cell? ⟨w.heap.size + 1, 5, none⟩ = some (.int .i64 x.slot) := cell_at o1 rfl
  have k6 : w0.cell? ⟨w.heap.size + 1, 6, none⟩ = some (.slice Ap x.pods.length cp) := cell_at o1 rfl
  have k7 : w0.cell? ⟨w.heap.size + 1, 7, none⟩ = some (.int .i64 x.cmp) := cell_at o1 rfl
  have k8 : w0.cell? ⟨w.heap.size + 1, 8, none⟩ = some (.int .i64 x.n) := cell_at o1 rfl
  have hNL : ∀ x ∈ d.nodes, x.labels.length ≤ 1073741824 := fun y hy => by have := HZ.out.nl y hy; omega
  have HNL := Lib.hid hNL
  clear hB0 hrd0 hpp0 hok0 o0 o1 Z hNL
  have hk := HKI.out
  have hkk := k0
  rw [hk] at hkk
  clear k0 hk
  go_wp2_with fail
  refine sets_k _ _ dv d ⟨5, x.key, x.value, x.podKey, x.podValue, x.slot, x.pods, x.cmp, x.n⟩ _ ok [_, _] (HQ.out.below HB0.out) HOK.out HRD.out HZ.out HPP.out hpl ?_
  intro w1 g1
  have hv := HR.out w1 (HB0.out.trans (g1.mono hs0))
  clear g1
  go_wp2_with fail
  exact hv
set_option maxRecDepth 100000 in
set_option maxHeartbeats 40000000 in
theorem asksS7_k (R : Ending → World → Prop) (w : World) (dv : Value) (d : RDom) (x : AskD) (vp : Value) (ok : Nat → Prop) (cd : List Value) (Q : Asked w dv d) (hok : ∀ k, ok k → k < w.heap.size) (hd : rdomK w ok d cd) (Z : Sized d) (hvp : SlK intsK 1 w ok vp x.pods) (hpl : x.pods.length ≤ 1073741824) (hk : x.kind = 7)
    (hR : ∀ w', Below w.heap.size w w' → R (.returned (.bool true)) w') :
    Calls Tryz.prog 14 #[dv, .agg cd.toArray, .agg (askC x vp)] w R := by
  have HKI := Lib.hid hk
  clear hk
  have HR := Lib.hid hR
  have HQ := Lib.hid Q
  have HOK0 := Lib.hid hok
  obtain ⟨vn, vq, rfl, hn, hp⟩ := hd
  obtain ⟨A, c, e, hlc, _⟩ := hn.form
  subst e
  obtain ⟨A2, c2, e2, hlc2, _⟩ := hp.form
  subst e2
  have hvp0 := hvp
  obtain ⟨Ap, cp, ep, hlp, _⟩ := hvp.form
  subst ep
  have hB0 : Below w.heap.size w ((w.alloc (.cells #[.slice A d.nodes.length c, .slice A2 d.pods.length c2] 29)).alloc (.cells (askC x (.slice Ap x.pods.length cp)) 45)) := Below.alloc (Below.alloc (Below.refl _ _) (Nat.le_refl _) _) (by simp) _
  have o0 : ((w.alloc (.cells #[.slice A d.nodes.length c, .slice A2 d.pods.length c2] 29)).alloc (.cells (askC x (.slice Ap x.pods.length cp)) 45)).heap[w.heap.size]? = some (.cells #[.slice A d.nodes.length c, .slice A2 d.pods.length c2] 29) := heap_keep (heap_alloc_new _ _) _
  have o1 : ((w.alloc (.cells #[.slice A d.nodes.length c, .slice A2 d.pods.length c2] 29)).alloc (.cells (askC x (.slice Ap x.pods.length cp)) 45)).heap[w.heap.size + 1]? = some (.cells (askC x (.slice Ap x.pods.length cp)) 45) := by
    have := heap_alloc_new (w.alloc (.cells #[.slice A d.nodes.length c, .slice A2 d.pods.length c2] 29)) (.cells (askC x (.slice Ap x.pods.length cp)) 45)
    rwa [World.size_alloc] at this
  have hrd0 : rdomK ((w.alloc (.cells #[.slice A d.nodes.length c, .slice A2 d.pods.length c2] 29)).alloc (.cells (askC x (.slice Ap x.pods.length cp)) 45)) ok d [.slice A d.nodes.length c, .slice A2 d.pods.length c2] := ⟨_, _, rfl, hn.below rnodeOk hB0 hok, hp.below rpodOk hB0 hok⟩
  have hpp0 := hvp0.below intOk hB0 hok
  have hok0 : ∀ k, ok k → k < ((w.alloc (.cells #[.slice A d.nodes.length c, .slice A2 d.pods.length c2] 29)).alloc (.cells (askC x (.slice Ap x.pods.length cp)) 45)).heap.size := fun k h => Nat.lt_of_lt_of_le (hok k h) hB0.size
  clear hR Q hok hn hp hvp hvp0
  go_enter Tryz.func14, Tryz.ntmps14
  go_upto_region 1 with fail
  generalize hW0 : (w.alloc (.cells #[.slice A d.nodes.length c, .slice A2 d.pods.length c2] 29)).alloc (.cells (askC x (.slice Ap x.pods.length cp)) 45) = w0 at *
  clear hW0
  have HB0 := Lib.hid hB0
  have hs0 := hB0.size
  have HRD := Lib.hid hrd0
  have HPP := Lib.hid hpp0
  have HOK := Lib.hid hok0
  have hzn := Z.n
  have hzp := Z.p
  have HZ := Lib.hid Z
  have q0 : w0.cell? ⟨w.heap.size, 0, none⟩ = some (.slice A d.nodes.length c) := cell_at o0 rfl
  have q1 : w0.cell? ⟨w.heap.size, 1, none⟩ = some (.slice A2 d.pods.length c2) := cell_at o0 rfl
  have k0 : w0.cell? ⟨w.heap.size + 1, 0, none⟩ = some (.int .i64 x.kind) := cell_at o1 rfl
  have k1 : w0.cell? ⟨w.heap.size + 1, 1, none⟩ = some (.string x.key) := cell_at o1 rfl
  have k2 : w0.cell? ⟨w.heap.size + 1, 2, none⟩ = some (.string x.value) := cell_at o1 rfl
  have k3 : w0.cell? ⟨w.heap.size + 1, 3, none⟩ = some (.string x.podKey) := cell_at o1 rfl
  have k4 : w0.cell? ⟨w.heap.size + 1, 4, none⟩ = some (.string x.podValue) := cell_at o1 rfl
  have k5 : w0.cell? ⟨w.heap.size + 1, 5, none⟩ = some (.int .i64 x.slot) := cell_at o1 rfl
  have k6 : w0.cell? ⟨w.heap.size + 1, 6, none⟩ = some (.slice Ap x.pods.length cp) := cell_at o1 rfl
  have k7 : w0.cell? ⟨w.heap.size + 1, 7, none⟩ = some (.int .i64 x.cmp) := cell_at o1 rfl
  have k8 : w0.cell? ⟨w.heap.size + 1, 8, none⟩ = some (.int .i64 x.n) := cell_at o1 rfl
  have hNL : ∀ x ∈ d.nodes, x.labels.length ≤ 1073741824 := fun y hy => by have := HZ.out.nl y hy; omega
  have HNL := Lib.hid hNL
  clear hB0 hrd0 hpp0 hok0 o0 o1 Z hNL
  have hk := HKI.out
  have hkk := k0
  rw [hk] at hkk
  clear k0 hk
  go_wp2_with fail
  refine sets_k _ _ dv d ⟨7, x.key, x.value, x.podKey, x.podValue, x.slot, x.pods, x.cmp, x.n⟩ _ ok [_, _] (HQ.out.below HB0.out) HOK.out HRD.out HZ.out HPP.out hpl ?_
  intro w1 g1
  have hv := HR.out w1 (HB0.out.trans (g1.mono hs0))
  clear g1
  go_wp2_with fail
  exact hv
set_option maxRecDepth 100000 in
set_option maxHeartbeats 40000000 in
theorem asksS9_k (R : Ending → World → Prop) (w : World) (dv : Value) (d : RDom) (x : AskD) (vp : Value) (ok : Nat → Prop) (cd : List Value) (Q : Asked w dv d) (hok : ∀ k, ok k → k < w.heap.size) (hd : rdomK w ok d cd) (Z : Sized d) (hvp : SlK intsK 1 w ok vp x.pods) (hpl : x.pods.length ≤ 1073741824) (hk : x.kind = 9)
    (hR : ∀ w', Below w.heap.size w w' → R (.returned (.bool true)) w') :
    Calls Tryz.prog 14 #[dv, .agg cd.toArray, .agg (askC x vp)] w R := by
  have HKI := Lib.hid hk
  clear hk
  have HR := Lib.hid hR
  have HQ := Lib.hid Q
  have HOK0 := Lib.hid hok
  obtain ⟨vn, vq, rfl, hn, hp⟩ := hd
  obtain ⟨A, c, e, hlc, _⟩ := hn.form
  subst e
  obtain ⟨A2, c2, e2, hlc2, _⟩ := hp.form
  subst e2
  have hvp0 := hvp
  obtain ⟨Ap, cp, ep, hlp, _⟩ := hvp.form
  subst ep
  have hB0 : Below w.heap.size w ((w.alloc (.cells #[.slice A d.nodes.length c, .slice A2 d.pods.length c2] 29)).alloc (.cells (askC x (.slice Ap x.pods.length cp)) 45)) := Below.alloc (Below.alloc (Below.refl _ _) (Nat.le_refl _) _) (by simp) _
  have o0 : ((w.alloc (.cells #[.slice A d.nodes.length c, .slice A2 d.pods.length c2] 29)).alloc (.cells (askC x (.slice Ap x.pods.length cp)) 45)).heap[w.heap.size]? = some (.cells #[.slice A d.nodes.length c, .slice A2 d.pods.length c2] 29) := heap_keep (heap_alloc_new _ _) _
  have o1 : ((w.alloc (.cells #[.slice A d.nodes.length c, .slice A2 d.pods.length c2] 29)).alloc (.cells (askC x (.slice Ap x.pods.length cp)) 45)).heap[w.heap.size + 1]? = some (.cells (askC x (.slice Ap x.pods.length cp)) 45) := by
    have := heap_alloc_new (w.alloc (.cells #[.slice A d.nodes.length c, .slice A2 d.pods.length c2] 29)) (.cells (askC x (.slice Ap x.pods.length cp)) 45)
    rwa [World.size_alloc] at this
  have hrd0 : rdomK ((w.alloc (.cells #[.slice A d.nodes.length c, .slice A2 d.pods.length c2] 29)).alloc (.cells (askC x (.slice Ap x.pods.length cp)) 45)) ok d [.slice A d.nodes.length c, .slice A2 d.pods.length c2] := ⟨_, _, rfl, hn.below rnodeOk hB0 hok, hp.below rpodOk hB0 hok⟩
  have hpp0 := hvp0.below intOk hB0 hok
  have hok0 : ∀ k, ok k → k < ((w.alloc (.cells #[.slice A d.nodes.length c, .slice A2 d.pods.length c2] 29)).alloc (.cells (askC x (.slice Ap x.pods.length cp)) 45)).heap.size := fun k h => Nat.lt_of_lt_of_le (hok k h) hB0.size
  clear hR Q hok hn hp hvp hvp0
  go_enter Tryz.func14, Tryz.ntmps14
  go_upto_region 1 with fail
  generalize hW0 : (w.alloc (.cells #[.slice A d.nodes.length c, .slice A2 d.pods.length c2] 29)).alloc (.cells (askC x (.slice Ap x.pods.length cp)) 45) = w0 at *
  clear hW0
  have HB0 := Lib.hid hB0
  have hs0 := hB0.size
  have HRD := Lib.hid hrd0
  have HPP := Lib.hid hpp0
  have HOK := Lib.hid hok0
  have hzn := Z.n
  have hzp := Z.p
  have HZ := Lib.hid Z
  have q0 : w0.cell? ⟨w.heap.size, 0, none⟩ = some (.slice A d.nodes.length c) := cell_at o0 rfl
  have q1 : w0.cell? ⟨w.heap.size, 1, none⟩ = some (.slice A2 d.pods.length c2) := cell_at o0 rfl
  have k0 : w0.cell? ⟨w.heap.size + 1, 0, none⟩ = some (.int .i64 x.kind) := cell_at o1 rfl
  have k1 : w0.cell? ⟨w.heap.size + 1, 1, none⟩ = some (.string x.key) := cell_at o1 rfl
  have k2 : w0.cell? ⟨w.heap.size + 1, 2, none⟩ = some (.string x.value) := cell_at o1 rfl
  have k3 : w0.cell? ⟨w.heap.size + 1, 3, none⟩ = some (.string x.podKey) := cell_at o1 rfl
  have k4 : w0.cell? ⟨w.heap.size + 1, 4, none⟩ = some (.string x.podValue) := cell_at o1 rfl
  have k5 : w0.cell? ⟨w.heap.size + 1, 5, none⟩ = some (.int .i64 x.slot) := cell_at o1 rfl
  have k6 : w0.cell? ⟨w.heap.size + 1, 6, none⟩ = some (.slice Ap x.pods.length cp) := cell_at o1 rfl
  have k7 : w0.cell? ⟨w.heap.size + 1, 7, none⟩ = some (.int .i64 x.cmp) := cell_at o1 rfl
  have k8 : w0.cell? ⟨w.heap.size + 1, 8, none⟩ = some (.int .i64 x.n) := cell_at o1 rfl
  have hNL : ∀ x ∈ d.nodes, x.labels.length ≤ 1073741824 := fun y hy => by have := HZ.out.nl y hy; omega
  have HNL := Lib.hid hNL
  clear hB0 hrd0 hpp0 hok0 o0 o1 Z hNL
  have hk := HKI.out
  have hkk := k0
  rw [hk] at hkk
  clear k0 hk
  go_wp2_with fail
  refine sets_k _ _ dv d ⟨9, x.key, x.value, x.podKey, x.podValue, x.slot, x.pods, x.cmp, x.n⟩ _ ok [_, _] (HQ.out.below HB0.out) HOK.out HRD.out HZ.out HPP.out hpl ?_
  intro w1 g1
  have hv := HR.out w1 (HB0.out.trans (g1.mono hs0))
  clear g1
  go_wp2_with fail
  exact hv
set_option maxRecDepth 100000 in
set_option maxHeartbeats 40000000 in
theorem asksE_k (R : Ending → World → Prop) (w : World) (dv : Value) (d : RDom) (x : AskD) (vp : Value) (ok : Nat → Prop) (cd : List Value) (Q : Asked w dv d) (hok : ∀ k, ok k → k < w.heap.size) (hd : rdomK w ok d cd) (Z : Sized d) (hvp : SlK intsK 1 w ok vp x.pods) (hpl : x.pods.length ≤ 1073741824) (h1 : x.kind ≠ 1) (h2 : x.kind ≠ 2) (h3 : x.kind ≠ 3) (h4 : x.kind ≠ 4) (h5 : x.kind ≠ 5) (h6 : x.kind ≠ 6) (h7 : x.kind ≠ 7) (h8 : x.kind ≠ 8) (h9 : x.kind ≠ 9)
    (hR : ∀ w', Below w.heap.size w w' → R (.returned (.bool true)) w') :
    Calls Tryz.prog 14 #[dv, .agg cd.toArray, .agg (askC x vp)] w R := by
  have E1 := Lib.hid (show (x.kind == 1) = false by simpa using h1)
  have E2 := Lib.hid (show (x.kind == 2) = false by simpa using h2)
  have E3 := Lib.hid (show (x.kind == 3) = false by simpa using h3)
  have E4 := Lib.hid (show (x.kind == 4) = false by simpa using h4)
  have E5 := Lib.hid (show (x.kind == 5) = false by simpa using h5)
  have E6 := Lib.hid (show (x.kind == 6) = false by simpa using h6)
  have E7 := Lib.hid (show (x.kind == 7) = false by simpa using h7)
  have E8 := Lib.hid (show (x.kind == 8) = false by simpa using h8)
  have E9 := Lib.hid (show (x.kind == 9) = false by simpa using h9)
  clear h1 h2 h3 h4 h5 h6 h7 h8 h9
  have HR := Lib.hid hR
  have HQ := Lib.hid Q
  have HOK0 := Lib.hid hok
  obtain ⟨vn, vq, rfl, hn, hp⟩ := hd
  obtain ⟨A, c, e, hlc, _⟩ := hn.form
  subst e
  obtain ⟨A2, c2, e2, hlc2, _⟩ := hp.form
  subst e2
  have hvp0 := hvp
  obtain ⟨Ap, cp, ep, hlp, _⟩ := hvp.form
  subst ep
  have hB0 : Below w.heap.size w ((w.alloc (.cells #[.slice A d.nodes.length c, .slice A2 d.pods.length c2] 29)).alloc (.cells (askC x (.slice Ap x.pods.length cp)) 45)) := Below.alloc (Below.alloc (Below.refl _ _) (Nat.le_refl _) _) (by simp) _
  have o0 : ((w.alloc (.cells #[.slice A d.nodes.length c, .slice A2 d.pods.length c2] 29)).alloc (.cells (askC x (.slice Ap x.pods.length cp)) 45)).heap[w.heap.size]? = some (.cells #[.slice A d.nodes.length c, .slice A2 d.pods.length c2] 29) := heap_keep (heap_alloc_new _ _) _
  have o1 : ((w.alloc (.cells #[.slice A d.nodes.length c, .slice A2 d.pods.length c2] 29)).alloc (.cells (askC x (.slice Ap x.pods.length cp)) 45)).heap[w.heap.size + 1]? = some (.cells (askC x (.slice Ap x.pods.length cp)) 45) := by
    have := heap_alloc_new (w.alloc (.cells #[.slice A d.nodes.length c, .slice A2 d.pods.length c2] 29)) (.cells (askC x (.slice Ap x.pods.length cp)) 45)
    rwa [World.size_alloc] at this
  have hrd0 : rdomK ((w.alloc (.cells #[.slice A d.nodes.length c, .slice A2 d.pods.length c2] 29)).alloc (.cells (askC x (.slice Ap x.pods.length cp)) 45)) ok d [.slice A d.nodes.length c, .slice A2 d.pods.length c2] := ⟨_, _, rfl, hn.below rnodeOk hB0 hok, hp.below rpodOk hB0 hok⟩
  have hpp0 := hvp0.below intOk hB0 hok
  have hok0 : ∀ k, ok k → k < ((w.alloc (.cells #[.slice A d.nodes.length c, .slice A2 d.pods.length c2] 29)).alloc (.cells (askC x (.slice Ap x.pods.length cp)) 45)).heap.size := fun k h => Nat.lt_of_lt_of_le (hok k h) hB0.size
  clear hR Q hok hn hp hvp hvp0
  go_enter Tryz.func14, Tryz.ntmps14
  go_upto_region 1 with fail
  generalize hW0 : (w.alloc (.cells #[.slice A d.nodes.length c, .slice A2 d.pods.length c2] 29)).alloc (.cells (askC x (.slice Ap x.pods.length cp)) 45) = w0 at *
  clear hW0
  have HB0 := Lib.hid hB0
  have hs0 := hB0.size
  have HRD := Lib.hid hrd0
  have HPP := Lib.hid hpp0
  have HOK := Lib.hid hok0
  have hzn := Z.n
  have hzp := Z.p
  have HZ := Lib.hid Z
  have q0 : w0.cell? ⟨w.heap.size, 0, none⟩ = some (.slice A d.nodes.length c) := cell_at o0 rfl
  have q1 : w0.cell? ⟨w.heap.size, 1, none⟩ = some (.slice A2 d.pods.length c2) := cell_at o0 rfl
  have k0 : w0.cell? ⟨w.heap.size + 1, 0, none⟩ = some (.int .i64 x.kind) := cell_at o1 rfl
  have k1 : w0.cell? ⟨w.heap.size + 1, 1, none⟩ = some (.string x.key) := cell_at o1 rfl
  have k2 : w0.cell? ⟨w.heap.size + 1, 2, none⟩ = some (.string x.value) := cell_at o1 rfl
  have k3 : w0.cell? ⟨w.heap.size + 1, 3, none⟩ = some (.string x.podKey) := cell_at o1 rfl
  have k4 : w0.cell? ⟨w.heap.size + 1, 4, none⟩ = some (.string x.podValue) := cell_at o1 rfl
  have k5 : w0.cell? ⟨w.heap.size + 1, 5, none⟩ = some (.int .i64 x.slot) := cell_at o1 rfl
  have k6 : w0.cell? ⟨w.heap.size + 1, 6, none⟩ = some (.slice Ap x.pods.length cp) := cell_at o1 rfl
  have k7 : w0.cell? ⟨w.heap.size + 1, 7, none⟩ = some (.int .i64 x.cmp) := cell_at o1 rfl
  have k8 : w0.cell? ⟨w.heap.size + 1, 8, none⟩ = some (.int .i64 x.n) := cell_at o1 rfl
  have hNL : ∀ x ∈ d.nodes, x.labels.length ≤ 1073741824 := fun y hy => by have := HZ.out.nl y hy; omega
  have HNL := Lib.hid hNL
  clear hB0 hrd0 hpp0 hok0 o0 o1 Z hNL
  have e1 := E1.out
  have e2 := E2.out
  have e3 := E3.out
  have e4 := E4.out
  have e5 := E5.out
  have e6 := E6.out
  have e7 := E7.out
  have e8 := E8.out
  have e9 := E9.out
  have hv := HR.out w0 HB0.out
  go_wp2_with fail
  exact hv
theorem asks_k (R : Ending → World → Prop) (w : World) (dv : Value) (d : RDom) (x : AskD) (vp : Value) (ok : Nat → Prop) (cd : List Value) (Q : Asked w dv d) (hok : ∀ k, ok k → k < w.heap.size) (hd : rdomK w ok d cd) (Z : Sized d) (hvp : SlK intsK 1 w ok vp x.pods) (hpl : x.pods.length ≤ 1073741824)
    (hR : ∀ w', Below w.heap.size w w' → R (.returned (.bool true)) w') :
    Calls Tryz.prog 14 #[dv, .agg cd.toArray, .agg (askC x vp)] w R := by
  by_cases h1 : x.kind = 1
  · exact asks1_k R w dv d x vp ok cd Q hok hd Z hvp hpl h1 hR
  by_cases h2 : x.kind = 2
  · exact asks2_k R w dv d x vp ok cd Q hok hd Z hvp hpl h2 hR
  by_cases h3 : x.kind = 3
  · exact asks3_k R w dv d x vp ok cd Q hok hd Z hvp hpl h3 hR
  by_cases h4 : x.kind = 4
  · exact asksS4_k R w dv d x vp ok cd Q hok hd Z hvp hpl h4 hR
  by_cases h5 : x.kind = 5
  · exact asksS5_k R w dv d x vp ok cd Q hok hd Z hvp hpl h5 hR
  by_cases h6 : x.kind = 6
  · exact asks6_k R w dv d x vp ok cd Q hok hd Z hvp hpl h6 hR
  by_cases h7 : x.kind = 7
  · exact asksS7_k R w dv d x vp ok cd Q hok hd Z hvp hpl h7 hR
  by_cases h8 : x.kind = 8
  · exact asks8_k R w dv d x vp ok cd Q hok hd Z hvp hpl h8 hR
  by_cases h9 : x.kind = 9
  · exact asksS9_k R w dv d x vp ok cd Q hok hd Z hvp hpl h9 hR
  exact asksE_k R w dv d x vp ok cd Q hok hd Z hvp hpl h1 h2 h3 h4 h5 h6 h7 h8 h9 hR
end Go.Proofs.YtmenipaibjifiaaGreatDoor
