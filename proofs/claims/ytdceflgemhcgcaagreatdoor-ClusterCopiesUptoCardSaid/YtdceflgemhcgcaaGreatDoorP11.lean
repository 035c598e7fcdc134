/-
taint, berthref04: effects, a taint's and a toleration's check.
quant, berthref02: IsName.
-/
import Derived.Test.YtdceflgemhcgcaaGreatDoorP10
import Derived.Test.YtdceflgemhcgcaaGreatDoorP03
set_option linter.unusedVariables false
set_option linter.unusedSimpArgs false
namespace Go.Proofs.YtdceflgemhcgcaaGreatDoor
open Go.RowKit Go.BigFrame

def effB (s : ByteArray) : Bool := (s.toList == [78, 111, 83, 99, 104, 101, 100, 117, 108, 101]) || (s.toList == [80, 114, 101, 102, 101, 114, 78, 111, 83, 99, 104, 101, 100, 117, 108, 101]) || (s.toList == [78, 111, 69, 120, 101, 99, 117, 116, 101])
def opEq (s : ByteArray) : Bool := s.toList == [69, 113, 117, 97, 108]
def opEx (s : ByteArray) : Bool := s.toList == [69, 120, 105, 115, 116, 115]
def emptyB (s : ByteArray) : Bool := s.toList == []
/-- What CheckTaint answers. -/
def taintErr (t : Tnt) : Int := if keyB t.key = false then 41 else if valueB t.val = false then 42 else if effB t.eff = false then 40 else 0
/-- What CheckToleration answers. -/
def tolErr (o : Tol) : Int := if (opEq o.op || opEx o.op) = false then 46 else if (emptyB o.key && opEq o.op) = true then 41 else if (!emptyB o.key && !keyB o.key) = true then 41 else if (opEx o.op && !emptyB o.val) = true then 42 else if valueB o.val = false then 42 else if (!emptyB o.eff && !effB o.eff) = true then 40 else 0
set_option maxRecDepth 100000 in
theorem effect_k (R : Ending → World → Prop) (w : World) (s : ByteArray) (hR : R (.returned (.bool (effB s))) w) : Calls Tryz.prog 205 #[.string s] w R := by
  unfold effB at hR
  cases e1 : (s.toList == [78, 111, 83, 99, 104, 101, 100, 117, 108, 101]) <;> cases e2 : (s.toList == [80, 114, 101, 102, 101, 114, 78, 111, 83, 99, 104, 101, 100, 117, 108, 101]) <;> cases e3 : (s.toList == [78, 111, 69, 120, 101, 99, 117, 116, 101]) <;> (
    simp only [e1, e2, e3, Bool.or_true, Bool.or_false] at hR
    go_enter Tryz.func205, Tryz.ntmps205
    go_wp2_with fail
    first
    | exact hR
    | (simp_all; done))
set_option maxRecDepth 100000 in
theorem reffect_k (R : Ending → World → Prop) (w : World) (s : ByteArray) (hR : R (.returned (.bool (effB s))) w) : Calls Tryz.prog 216 #[.string s] w R := by
  unfold effB at hR
  cases e1 : (s.toList == [78, 111, 83, 99, 104, 101, 100, 117, 108, 101]) <;> cases e2 : (s.toList == [80, 114, 101, 102, 101, 114, 78, 111, 83, 99, 104, 101, 100, 117, 108, 101]) <;> cases e3 : (s.toList == [78, 111, 69, 120, 101, 99, 117, 116, 101]) <;> (
    simp only [e1, e2, e3, Bool.or_true, Bool.or_false] at hR
    go_enter Tryz.func216, Tryz.ntmps216
    go_wp2_with fail
    first
    | exact hR
    | (simp_all; done))
theorem ba_empty {s : ByteArray} : emptyB s = decide (s.size = 0) := by
  unfold emptyB
  have h : s.toList == [] ↔ s.size = 0 := by
    rw [beq_iff_eq]
    constructor
    · intro h
      have : s = ⟨#[]⟩ := ba_toList_inj.1 (h.trans (by rw [ByteArray.toList_eq]))
      rw [this]; rfl
    · intro h
      have : s = ⟨#[]⟩ := by
        cases s with
        | mk a =>
          have : a = #[] := Array.eq_empty_of_size_eq_zero h
          rw [this]
      rw [this, ByteArray.toList_eq]
  cases e : (s.toList == []) <;> simp_all
theorem value_nil {s : ByteArray} (h : (s.toList == []) = true) : valueB s = true := by
  have := ba_empty (s := s)
  unfold emptyB at this
  rw [h] at this
  unfold valueB
  rw [← this]
  rfl
set_option maxRecDepth 100000 in
set_option maxHeartbeats 2000000 in
theorem ctaint_k (R : Ending → World → Prop) (w : World) (t : Tnt) (hG : GOk w) (hs : t.key.size ≤ 1048576 ∧ t.val.size ≤ 1048576 ∧ t.eff.size ≤ 1048576) (hR : ∀ w', Below w.heap.size w w' → R (.returned (.int .i64 (taintErr t))) w') :
    Calls Tryz.prog 118 #[.agg #[.string t.key, .string t.val, .string t.eff]] w R := by
  have HR := Lib.hid hR
  have HB := Lib.hid (show Below w.heap.size w (w.alloc (.cells #[.string t.key, .string t.val, .string t.eff] 34)) from Below.alloc (Below.refl _ _) (Nat.le_refl _) _)
  have OB := Lib.hid (show (w.alloc (.cells #[.string t.key, .string t.val, .string t.eff] 34)).heap[w.heap.size]? = some (.cells #[.string t.key, .string t.val, .string t.eff] 34) from heap_alloc_new _ _)
  have HG := Lib.hid (GOk.below hG HB.out)
  clear hR hG
  go_enter Tryz.func118, Tryz.ntmps118
  go_wp2_with fail
  refine key_k _ _ t.key HG.out hs.1 ?_
  intro w1 g1
  have B1 := Lib.hid (HB.out.trans (g1.mono HB.out.size))
  have o1 := (g1.block w.heap.size (by simp)).trans OB.out
  have c1 : w1.cell? ⟨w.heap.size, 1, none⟩ = some (.string t.val) := cell_at o1 rfl
  have c2 : w1.cell? ⟨w.heap.size, 2, none⟩ = some (.string t.eff) := cell_at o1 rfl
  clear g1 o1
  cases hk : keyB t.key with
  | false =>
    have hv := HR.out w1 B1.out
    rw [show taintErr t = 41 by unfold taintErr; rw [if_pos hk]] at hv
    go_wp2_with fail
    exact hv
  | true =>
    cases e0 : (t.val.toList == []) with
    | true =>
      have hw := value_nil e0
      have hv := HR.out w1 B1.out
      go_wp2_with fail
      refine effect_k _ _ t.eff ?_
      cases he : effB t.eff with
      | false =>
        rw [show taintErr t = 40 by unfold taintErr; rw [if_neg (by simp [hk]), if_neg (by simp [hw]), if_pos he]] at hv
        go_wp2_with fail
        exact hv
      | true =>
        rw [show taintErr t = 0 by unfold taintErr; rw [if_neg (by simp [hk]), if_neg (by simp [hw]), if_neg (by simp [he])]] at hv
        go_wp2_with fail
        exact hv
    | false =>
      go_wp2_with fail
      refine value_k _ _ t.val hs.2.1 ?_
      cases hw : valueB t.val with
      | false =>
        have hv := HR.out w1 B1.out
        rw [show taintErr t = 42 by unfold taintErr; rw [if_neg (by simp [hk]), if_pos hw]] at hv
        go_wp2_with fail
        exact hv
      | true =>
        have hv := HR.out w1 B1.out
        go_wp2_with fail
        refine effect_k _ _ t.eff ?_
        cases he : effB t.eff with
        | false =>
          rw [show taintErr t = 40 by unfold taintErr; rw [if_neg (by simp [hk]), if_neg (by simp [hw]), if_pos he]] at hv
          go_wp2_with fail
          exact hv
        | true =>
          rw [show taintErr t = 0 by unfold taintErr; rw [if_neg (by simp [hk]), if_neg (by simp [hw]), if_neg (by simp [he])]] at hv
          go_wp2_with fail
          exact hv
set_option maxRecDepth 100000 in
set_option maxHeartbeats 2000000 in
theorem rctaint_k (R : Ending → World → Prop) (w : World) (t : Tnt) (hs : t.key.size ≤ 1048576 ∧ t.val.size ≤ 1048576 ∧ t.eff.size ≤ 1048576) (hR : ∀ w', Below w.heap.size w w' → R (.returned (.int .i64 (taintErr t))) w') :
    Calls Tryz.prog 140 #[.agg #[.string t.key, .string t.val, .string t.eff]] w R := by
  have HR := Lib.hid hR
  have HB := Lib.hid (show Below w.heap.size w (w.alloc (.cells #[.string t.key, .string t.val, .string t.eff] 34)) from Below.alloc (Below.refl _ _) (Nat.le_refl _) _)
  have OB := Lib.hid (show (w.alloc (.cells #[.string t.key, .string t.val, .string t.eff] 34)).heap[w.heap.size]? = some (.cells #[.string t.key, .string t.val, .string t.eff] 34) from heap_alloc_new _ _)
  skip
  clear hR
  go_enter Tryz.func140, Tryz.ntmps140
  go_wp2_with fail
  refine rkey_k _ _ t.key hs.1 ?_
  intro w1 g1
  have B1 := Lib.hid (HB.out.trans (g1.mono HB.out.size))
  have o1 := (g1.block w.heap.size (by simp)).trans OB.out
  have c1 : w1.cell? ⟨w.heap.size, 1, none⟩ = some (.string t.val) := cell_at o1 rfl
  have c2 : w1.cell? ⟨w.heap.size, 2, none⟩ = some (.string t.eff) := cell_at o1 rfl
  clear g1 o1
  cases hk : keyB t.key with
  | false =>
    have hv := HR.out w1 B1.out
    rw [show taintErr t = 41 by unfold taintErr; rw [if_pos hk]] at hv
    go_wp2_with fail
    exact hv
  | true =>
    go_wp2_with fail
    refine rvalue_k _ _ t.val hs.2.1 ?_
    cases hw : valueB t.val with
    | false =>
      have hv := HR.out w1 B1.out
      rw [show taintErr t = 42 by unfold taintErr; rw [if_neg (by simp [hk]), if_pos hw]] at hv
      go_wp2_with fail
      exact hv
    | true =>
      have hv := HR.out w1 B1.out
      go_wp2_with fail
      refine reffect_k _ _ t.eff ?_
      cases he : effB t.eff with
      | false =>
        rw [show taintErr t = 40 by unfold taintErr; rw [if_neg (by simp [hk]), if_neg (by simp [hw]), if_pos he]] at hv
        go_wp2_with fail
        exact hv
      | true =>
        rw [show taintErr t = 0 by unfold taintErr; rw [if_neg (by simp [hk]), if_neg (by simp [hw]), if_neg (by simp [he])]] at hv
        go_wp2_with fail
        exact hv
theorem op_apart {s : ByteArray} (h : (s.toList == [69, 120, 105, 115, 116, 115]) = true) : (s.toList == [69, 113, 117, 97, 108]) = false := by
  rw [eq_of_beq h]; rfl
theorem opEx_of {s : ByteArray} (h : (s.toList == [69, 113, 117, 97, 108]) = true) : (s.toList == [69, 120, 105, 115, 116, 115]) = false := by
  rw [eq_of_beq h]; rfl
theorem splitOn_nil (c : UInt8) {s : ByteArray} (h : s.size = 0) : keyB s = false := by
  have : s = ⟨#[]⟩ := by
    cases s with
    | mk a =>
      have : a = #[] := Array.eq_empty_of_size_eq_zero h
      rw [this]
  subst this
  show keyB ⟨#[]⟩ = false
  kernel_rfl
theorem key_nil {s : ByteArray} (h : (s.toList == []) = true) : keyB s = false := by
  have := ba_empty (s := s)
  unfold emptyB at this
  rw [h] at this
  exact splitOn_nil 0 (by simpa using this.symm)
set_option maxRecDepth 100000 in
set_option maxHeartbeats 8000000 in
theorem ctol_k (R : Ending → World → Prop) (w : World) (o : Tol) (hG : GOk w) (hs : o.key.size ≤ 1048576 ∧ o.val.size ≤ 1048576) (hR : ∀ w', Below w.heap.size w w' → R (.returned (.int .i64 (tolErr o))) w') :
    Calls Tryz.prog 128 #[.agg #[.string o.key, .string o.op, .string o.val, .string o.eff]] w R := by
  have HR := Lib.hid hR
  have HB := Lib.hid (show Below w.heap.size w (w.alloc (.cells #[.string o.key, .string o.op, .string o.val, .string o.eff] 123)) from Below.alloc (Below.refl _ _) (Nat.le_refl _) _)
  have OB := Lib.hid (show (w.alloc (.cells #[.string o.key, .string o.op, .string o.val, .string o.eff] 123)).heap[w.heap.size]? = some (.cells #[.string o.key, .string o.op, .string o.val, .string o.eff] 123) from heap_alloc_new _ _)
  have HG := Lib.hid (GOk.below hG HB.out)
  clear hR hG
  cases h_b : (o.op.toList == [69, 120, 105, 115, 116, 115]) with
  | false =>
    cases h_a : (o.op.toList == [69, 113, 117, 97, 108]) with
    | false =>
      have ht : tolErr o = 46 := by simp [tolErr, opEq, opEx, emptyB, h_b, h_a]
      have HT := Lib.hid ht
      clear ht
      have hv := HR.out _ HB.out
      rw [HT.out] at hv
      go_enter Tryz.func128, Tryz.ntmps128
      go_wp2_with fail
      exact hv
    | true =>
      cases h_k : keyB o.key with
      | false =>
        cases h_k0 : (o.key.toList == []) <;> (
          have ht : tolErr o = 41 := by simp [tolErr, opEq, opEx, emptyB, h_b, h_a, h_k, h_k0]
          have HT := Lib.hid ht
          clear ht
          go_enter Tryz.func128, Tryz.ntmps128
          go_wp2_with fail
          refine key_k _ _ o.key HG.out hs.1 ?_
          intro w1 g1
          have B1 := Lib.hid (HB.out.trans (g1.mono HB.out.size))
          have o1 := (g1.block w.heap.size (by simp)).trans OB.out
          have c0 : w1.cell? ⟨w.heap.size, 0, none⟩ = some (.string o.key) := cell_at o1 rfl
          have c1 : w1.cell? ⟨w.heap.size, 1, none⟩ = some (.string o.op) := cell_at o1 rfl
          have c2 : w1.cell? ⟨w.heap.size, 2, none⟩ = some (.string o.val) := cell_at o1 rfl
          have c3 : w1.cell? ⟨w.heap.size, 3, none⟩ = some (.string o.eff) := cell_at o1 rfl
          clear g1 o1
          rw [h_k]
          have hv := HR.out _ B1.out
          rw [HT.out] at hv
          go_wp2_with fail
          exact hv)
      | true =>
        cases h_v0 : (o.val.toList == []) with
        | false =>
          cases h_v : valueB o.val with
          | false =>
            have h_k0 : (o.key.toList == []) = false := by
              cases h : (o.key.toList == []) with
              | false => rfl
              | true => rw [key_nil h] at h_k; cases h_k
            have ht : tolErr o = 42 := by simp [tolErr, opEq, opEx, emptyB, h_b, h_a, h_k, h_v0, h_v, h_k0]
            have HT := Lib.hid ht
            clear ht
            go_enter Tryz.func128, Tryz.ntmps128
            go_wp2_with fail
            refine key_k _ _ o.key HG.out hs.1 ?_
            intro w1 g1
            have B1 := Lib.hid (HB.out.trans (g1.mono HB.out.size))
            have o1 := (g1.block w.heap.size (by simp)).trans OB.out
            have c0 : w1.cell? ⟨w.heap.size, 0, none⟩ = some (.string o.key) := cell_at o1 rfl
            have c1 : w1.cell? ⟨w.heap.size, 1, none⟩ = some (.string o.op) := cell_at o1 rfl
            have c2 : w1.cell? ⟨w.heap.size, 2, none⟩ = some (.string o.val) := cell_at o1 rfl
            have c3 : w1.cell? ⟨w.heap.size, 3, none⟩ = some (.string o.eff) := cell_at o1 rfl
            clear g1 o1
            rw [h_k]
            have hv := HR.out _ B1.out
            rw [HT.out] at hv
            go_wp2_with fail
            refine value_k _ _ o.val hs.2 ?_
            rw [h_v]
            go_wp2_with fail
            exact hv
          | true =>
            cases h_e0 : (o.eff.toList == []) with
            | false =>
              cases h_e : effB o.eff with
              | false =>
                have h_k0 : (o.key.toList == []) = false := by
                  cases h : (o.key.toList == []) with
                  | false => rfl
                  | true => rw [key_nil h] at h_k; cases h_k
                have ht : tolErr o = 40 := by simp [tolErr, opEq, opEx, emptyB, h_b, h_a, h_k, h_v0, h_v, h_e0, h_e, h_k0]
                have HT := Lib.hid ht
                clear ht
                go_enter Tryz.func128, Tryz.ntmps128
                go_wp2_with fail
                refine key_k _ _ o.key HG.out hs.1 ?_
                intro w1 g1
                have B1 := Lib.hid (HB.out.trans (g1.mono HB.out.size))
                have o1 := (g1.block w.heap.size (by simp)).trans OB.out
                have c0 : w1.cell? ⟨w.heap.size, 0, none⟩ = some (.string o.key) := cell_at o1 rfl
                have c1 : w1.cell? ⟨w.heap.size, 1, none⟩ = some (.string o.op) := cell_at o1 rfl
                have c2 : w1.cell? ⟨w.heap.size, 2, none⟩ = some (.string o.val) := cell_at o1 rfl
                have c3 : w1.cell? ⟨w.heap.size, 3, none⟩ = some (.string o.eff) := cell_at o1 rfl
                clear g1 o1
                rw [h_k]
                have hv := HR.out _ B1.out
                rw [HT.out] at hv
                go_wp2_with fail
                refine value_k _ _ o.val hs.2 ?_
                rw [h_v]
                go_wp2_with fail
                refine effect_k _ _ o.eff ?_
                rw [h_e]
                go_wp2_with fail
                exact hv
              | true =>
                have h_k0 : (o.key.toList == []) = false := by
                  cases h : (o.key.toList == []) with
                  | false => rfl
                  | true => rw [key_nil h] at h_k; cases h_k
                have ht : tolErr o = 0 := by simp [tolErr, opEq, opEx, emptyB, h_b, h_a, h_k, h_v0, h_v, h_e0, h_e, h_k0]
                have HT := Lib.hid ht
                clear ht
                go_enter Tryz.func128, Tryz.ntmps128
                go_wp2_with fail
                refine key_k _ _ o.key HG.out hs.1 ?_
                intro w1 g1
                have B1 := Lib.hid (HB.out.trans (g1.mono HB.out.size))
                have o1 := (g1.block w.heap.size (by simp)).trans OB.out
                have c0 : w1.cell? ⟨w.heap.size, 0, none⟩ = some (.string o.key) := cell_at o1 rfl
                have c1 : w1.cell? ⟨w.heap.size, 1, none⟩ = some (.string o.op) := cell_at o1 rfl
                have c2 : w1.cell? ⟨w.heap.size, 2, none⟩ = some (.string o.val) := cell_at o1 rfl
                have c3 : w1.cell? ⟨w.heap.size, 3, none⟩ = some (.string o.eff) := cell_at o1 rfl
                clear g1 o1
                rw [h_k]
                have hv := HR.out _ B1.out
                rw [HT.out] at hv
                go_wp2_with fail
                refine value_k _ _ o.val hs.2 ?_
                rw [h_v]
                go_wp2_with fail
                refine effect_k _ _ o.eff ?_
                rw [h_e]
                go_wp2_with fail
                exact hv
            | true =>
              have h_k0 : (o.key.toList == []) = false := by
                cases h : (o.key.toList == []) with
                | false => rfl
                | true => rw [key_nil h] at h_k; cases h_k
              have ht : tolErr o = 0 := by simp [tolErr, opEq, opEx, emptyB, h_b, h_a, h_k, h_v0, h_v, h_e0, h_k0]
              have HT := Lib.hid ht
              clear ht
              go_enter Tryz.func128, Tryz.ntmps128
              go_wp2_with fail
              refine key_k _ _ o.key HG.out hs.1 ?_
              intro w1 g1
              have B1 := Lib.hid (HB.out.trans (g1.mono HB.out.size))
              have o1 := (g1.block w.heap.size (by simp)).trans OB.out
              have c0 : w1.cell? ⟨w.heap.size, 0, none⟩ = some (.string o.key) := cell_at o1 rfl
              have c1 : w1.cell? ⟨w.heap.size, 1, none⟩ = some (.string o.op) := cell_at o1 rfl
              have c2 : w1.cell? ⟨w.heap.size, 2, none⟩ = some (.string o.val) := cell_at o1 rfl
              have c3 : w1.cell? ⟨w.heap.size, 3, none⟩ = some (.string o.eff) := cell_at o1 rfl
              clear g1 o1
              rw [h_k]
              have hv := HR.out _ B1.out
              rw [HT.out] at hv
              go_wp2_with fail
              refine value_k _ _ o.val hs.2 ?_
              rw [h_v]
              go_wp2_with fail
              exact hv
        | true =>
          cases h_e0 : (o.eff.toList == []) with
          | false =>
            cases h_e : effB o.eff with
            | false =>
              have h_v := value_nil h_v0
              have h_k0 : (o.key.toList == []) = false := by
                cases h : (o.key.toList == []) with
                | false => rfl
                | true => rw [key_nil h] at h_k; cases h_k
              have ht : tolErr o = 40 := by simp [tolErr, opEq, opEx, emptyB, h_b, h_a, h_k, h_v0, h_e0, h_e, h_v, h_k0]
              have HT := Lib.hid ht
              clear ht
              go_enter Tryz.func128, Tryz.ntmps128
              go_wp2_with fail
              refine key_k _ _ o.key HG.out hs.1 ?_
              intro w1 g1
              have B1 := Lib.hid (HB.out.trans (g1.mono HB.out.size))
              have o1 := (g1.block w.heap.size (by simp)).trans OB.out
              have c0 : w1.cell? ⟨w.heap.size, 0, none⟩ = some (.string o.key) := cell_at o1 rfl
              have c1 : w1.cell? ⟨w.heap.size, 1, none⟩ = some (.string o.op) := cell_at o1 rfl
              have c2 : w1.cell? ⟨w.heap.size, 2, none⟩ = some (.string o.val) := cell_at o1 rfl
              have c3 : w1.cell? ⟨w.heap.size, 3, none⟩ = some (.string o.eff) := cell_at o1 rfl
              clear g1 o1
              rw [h_k]
              have hv := HR.out _ B1.out
              rw [HT.out] at hv
              go_wp2_with fail
              refine effect_k _ _ o.eff ?_
              rw [h_e]
              go_wp2_with fail
              exact hv
            | true =>
              have h_v := value_nil h_v0
              have h_k0 : (o.key.toList == []) = false := by
                cases h : (o.key.toList == []) with
                | false => rfl
                | true => rw [key_nil h] at h_k; cases h_k
              have ht : tolErr o = 0 := by simp [tolErr, opEq, opEx, emptyB, h_b, h_a, h_k, h_v0, h_e0, h_e, h_v, h_k0]
              have HT := Lib.hid ht
              clear ht
              go_enter Tryz.func128, Tryz.ntmps128
              go_wp2_with fail
              refine key_k _ _ o.key HG.out hs.1 ?_
              intro w1 g1
              have B1 := Lib.hid (HB.out.trans (g1.mono HB.out.size))
              have o1 := (g1.block w.heap.size (by simp)).trans OB.out
              have c0 : w1.cell? ⟨w.heap.size, 0, none⟩ = some (.string o.key) := cell_at o1 rfl
              have c1 : w1.cell? ⟨w.heap.size, 1, none⟩ = some (.string o.op) := cell_at o1 rfl
              have c2 : w1.cell? ⟨w.heap.size, 2, none⟩ = some (.string o.val) := cell_at o1 rfl
              have c3 : w1.cell? ⟨w.heap.size, 3, none⟩ = some (.string o.eff) := cell_at o1 rfl
              clear g1 o1
              rw [h_k]
              have hv := HR.out _ B1.out
              rw [HT.out] at hv
              go_wp2_with fail
              refine effect_k _ _ o.eff ?_
              rw [h_e]
              go_wp2_with fail
              exact hv
          | true =>
            have h_v := value_nil h_v0
            have h_k0 : (o.key.toList == []) = false := by
              cases h : (o.key.toList == []) with
              | false => rfl
              | true => rw [key_nil h] at h_k; cases h_k
            have ht : tolErr o = 0 := by simp [tolErr, opEq, opEx, emptyB, h_b, h_a, h_k, h_v0, h_e0, h_v, h_k0]
            have HT := Lib.hid ht
            clear ht
            go_enter Tryz.func128, Tryz.ntmps128
            go_wp2_with fail
            refine key_k _ _ o.key HG.out hs.1 ?_
            intro w1 g1
            have B1 := Lib.hid (HB.out.trans (g1.mono HB.out.size))
            have o1 := (g1.block w.heap.size (by simp)).trans OB.out
            have c0 : w1.cell? ⟨w.heap.size, 0, none⟩ = some (.string o.key) := cell_at o1 rfl
            have c1 : w1.cell? ⟨w.heap.size, 1, none⟩ = some (.string o.op) := cell_at o1 rfl
            have c2 : w1.cell? ⟨w.heap.size, 2, none⟩ = some (.string o.val) := cell_at o1 rfl
            have c3 : w1.cell? ⟨w.heap.size, 3, none⟩ = some (.string o.eff) := cell_at o1 rfl
            clear g1 o1
            rw [h_k]
            have hv := HR.out _ B1.out
            rw [HT.out] at hv
            go_wp2_with fail
            exact hv
  | true =>
    cases h_k : keyB o.key with
    | false =>
      cases h_k0 : (o.key.toList == []) with
      | false =>
        have h_a := op_apart h_b
        have ht : tolErr o = 41 := by simp [tolErr, opEq, opEx, emptyB, h_b, h_k, h_k0, h_a]
        have HT := Lib.hid ht
        clear ht
        go_enter Tryz.func128, Tryz.ntmps128
        go_wp2_with fail
        refine key_k _ _ o.key HG.out hs.1 ?_
        intro w1 g1
        have B1 := Lib.hid (HB.out.trans (g1.mono HB.out.size))
        have o1 := (g1.block w.heap.size (by simp)).trans OB.out
        have c0 : w1.cell? ⟨w.heap.size, 0, none⟩ = some (.string o.key) := cell_at o1 rfl
        have c1 : w1.cell? ⟨w.heap.size, 1, none⟩ = some (.string o.op) := cell_at o1 rfl
        have c2 : w1.cell? ⟨w.heap.size, 2, none⟩ = some (.string o.val) := cell_at o1 rfl
        have c3 : w1.cell? ⟨w.heap.size, 3, none⟩ = some (.string o.eff) := cell_at o1 rfl
        clear g1 o1
        rw [h_k]
        have hv := HR.out _ B1.out
        rw [HT.out] at hv
        go_wp2_with fail
        exact hv
      | true =>
        cases h_v0 : (o.val.toList == []) with
        | false =>
          have h_a := op_apart h_b
          have ht : tolErr o = 42 := by simp [tolErr, opEq, opEx, emptyB, h_b, h_k, h_k0, h_v0, h_a]
          have HT := Lib.hid ht
          clear ht
          go_enter Tryz.func128, Tryz.ntmps128
          go_wp2_with fail
          refine key_k _ _ o.key HG.out hs.1 ?_
          intro w1 g1
          have B1 := Lib.hid (HB.out.trans (g1.mono HB.out.size))
          have o1 := (g1.block w.heap.size (by simp)).trans OB.out
          have c0 : w1.cell? ⟨w.heap.size, 0, none⟩ = some (.string o.key) := cell_at o1 rfl
          have c1 : w1.cell? ⟨w.heap.size, 1, none⟩ = some (.string o.op) := cell_at o1 rfl
          have c2 : w1.cell? ⟨w.heap.size, 2, none⟩ = some (.string o.val) := cell_at o1 rfl
          have c3 : w1.cell? ⟨w.heap.size, 3, none⟩ = some (.string o.eff) := cell_at o1 rfl
          clear g1 o1
          rw [h_k]
          have hv := HR.out _ B1.out
          rw [HT.out] at hv
          go_wp2_with fail
          exact hv
        | true =>
          cases h_e0 : (o.eff.toList == []) with
          | false =>
            cases h_e : effB o.eff with
            | false =>
              have h_a := op_apart h_b
              have h_v := value_nil h_v0
              have ht : tolErr o = 40 := by simp [tolErr, opEq, opEx, emptyB, h_b, h_k, h_k0, h_v0, h_e0, h_e, h_a, h_v]
              have HT := Lib.hid ht
              clear ht
              go_enter Tryz.func128, Tryz.ntmps128
              go_wp2_with fail
              refine key_k _ _ o.key HG.out hs.1 ?_
              intro w1 g1
              have B1 := Lib.hid (HB.out.trans (g1.mono HB.out.size))
              have o1 := (g1.block w.heap.size (by simp)).trans OB.out
              have c0 : w1.cell? ⟨w.heap.size, 0, none⟩ = some (.string o.key) := cell_at o1 rfl
              have c1 : w1.cell? ⟨w.heap.size, 1, none⟩ = some (.string o.op) := cell_at o1 rfl
              have c2 : w1.cell? ⟨w.heap.size, 2, none⟩ = some (.string o.val) := cell_at o1 rfl
              have c3 : w1.cell? ⟨w.heap.size, 3, none⟩ = some (.string o.eff) := cell_at o1 rfl
              clear g1 o1
              rw [h_k]
              have hv := HR.out _ B1.out
              rw [HT.out] at hv
              go_wp2_with fail
              refine effect_k _ _ o.eff ?_
              rw [h_e]
              go_wp2_with fail
              exact hv
            | true =>
              have h_a := op_apart h_b
              have h_v := value_nil h_v0
              have ht : tolErr o = 0 := by simp [tolErr, opEq, opEx, emptyB, h_b, h_k, h_k0, h_v0, h_e0, h_e, h_a, h_v]
              have HT := Lib.hid ht
              clear ht
              go_enter Tryz.func128, Tryz.ntmps128
              go_wp2_with fail
              refine key_k _ _ o.key HG.out hs.1 ?_
              intro w1 g1
              have B1 := Lib.hid (HB.out.trans (g1.mono HB.out.size))
              have o1 := (g1.block w.heap.size (by simp)).trans OB.out
              have c0 : w1.cell? ⟨w.heap.size, 0, none⟩ = some (.string o.key) := cell_at o1 rfl
              have c1 : w1.cell? ⟨w.heap.size, 1, none⟩ = some (.string o.op) := cell_at o1 rfl
              have c2 : w1.cell? ⟨w.heap.size, 2, none⟩ = some (.string o.val) := cell_at o1 rfl
              have c3 : w1.cell? ⟨w.heap.size, 3, none⟩ = some (.string o.eff) := cell_at o1 rfl
              clear g1 o1
              rw [h_k]
              have hv := HR.out _ B1.out
              rw [HT.out] at hv
              go_wp2_with fail
              refine effect_k _ _ o.eff ?_
              rw [h_e]
              go_wp2_with fail
              exact hv
          | true =>
            have h_a := op_apart h_b
            have h_v := value_nil h_v0
            have ht : tolErr o = 0 := by simp [tolErr, opEq, opEx, emptyB, h_b, h_k, h_k0, h_v0, h_e0, h_a, h_v]
            have HT := Lib.hid ht
            clear ht
            go_enter Tryz.func128, Tryz.ntmps128
            go_wp2_with fail
            refine key_k _ _ o.key HG.out hs.1 ?_
            intro w1 g1
            have B1 := Lib.hid (HB.out.trans (g1.mono HB.out.size))
            have o1 := (g1.block w.heap.size (by simp)).trans OB.out
            have c0 : w1.cell? ⟨w.heap.size, 0, none⟩ = some (.string o.key) := cell_at o1 rfl
            have c1 : w1.cell? ⟨w.heap.size, 1, none⟩ = some (.string o.op) := cell_at o1 rfl
            have c2 : w1.cell? ⟨w.heap.size, 2, none⟩ = some (.string o.val) := cell_at o1 rfl
            have c3 : w1.cell? ⟨w.heap.size, 3, none⟩ = some (.string o.eff) := cell_at o1 rfl
            clear g1 o1
            rw [h_k]
            have hv := HR.out _ B1.out
            rw [HT.out] at hv
            go_wp2_with fail
            exact hv
    | true =>
      cases h_v0 : (o.val.toList == []) with
      | false =>
        have h_a := op_apart h_b
        have h_k0 : (o.key.toList == []) = false := by
          cases h : (o.key.toList == []) with
          | false => rfl
          | true => rw [key_nil h] at h_k; cases h_k
        have ht : tolErr o = 42 := by simp [tolErr, opEq, opEx, emptyB, h_b, h_k, h_v0, h_a, h_k0]
        have HT := Lib.hid ht
        clear ht
        go_enter Tryz.func128, Tryz.ntmps128
        go_wp2_with fail
        refine key_k _ _ o.key HG.out hs.1 ?_
        intro w1 g1
        have B1 := Lib.hid (HB.out.trans (g1.mono HB.out.size))
        have o1 := (g1.block w.heap.size (by simp)).trans OB.out
        have c0 : w1.cell? ⟨w.heap.size, 0, none⟩ = some (.string o.key) := cell_at o1 rfl
        have c1 : w1.cell? ⟨w.heap.size, 1, none⟩ = some (.string o.op) := cell_at o1 rfl
        have c2 : w1.cell? ⟨w.heap.size, 2, none⟩ = some (.string o.val) := cell_at o1 rfl
        have c3 : w1.cell? ⟨w.heap.size, 3, none⟩ = some (.string o.eff) := cell_at o1 rfl
        clear g1 o1
        rw [h_k]
        have hv := HR.out _ B1.out
        rw [HT.out] at hv
        go_wp2_with fail
        exact hv
      | true =>
        cases h_e0 : (o.eff.toList == []) with
        | false =>
          cases h_e : effB o.eff with
          | false =>
            have h_a := op_apart h_b
            have h_v := value_nil h_v0
            have h_k0 : (o.key.toList == []) = false := by
              cases h : (o.key.toList == []) with
              | false => rfl
              | true => rw [key_nil h] at h_k; cases h_k
            have ht : tolErr o = 40 := by simp [tolErr, opEq, opEx, emptyB, h_b, h_k, h_v0, h_e0, h_e, h_a, h_v, h_k0]
            have HT := Lib.hid ht
            clear ht
            go_enter Tryz.func128, Tryz.ntmps128
            go_wp2_with fail
            refine key_k _ _ o.key HG.out hs.1 ?_
            intro w1 g1
            have B1 := Lib.hid (HB.out.trans (g1.mono HB.out.size))
            have o1 := (g1.block w.heap.size (by simp)).trans OB.out
            have c0 : w1.cell? ⟨w.heap.size, 0, none⟩ = some (.string o.key) := cell_at o1 rfl
            have c1 : w1.cell? ⟨w.heap.size, 1, none⟩ = some (.string o.op) := cell_at o1 rfl
            have c2 : w1.cell? ⟨w.heap.size, 2, none⟩ = some (.string o.val) := cell_at o1 rfl
            have c3 : w1.cell? ⟨w.heap.size, 3, none⟩ = some (.string o.eff) := cell_at o1 rfl
            clear g1 o1
            rw [h_k]
            have hv := HR.out _ B1.out
            rw [HT.out] at hv
            go_wp2_with fail
            refine effect_k _ _ o.eff ?_
            rw [h_e]
            go_wp2_with fail
            exact hv
          | true =>
            have h_a := op_apart h_b
            have h_v := value_nil h_v0
            have h_k0 : (o.key.toList == []) = false := by
              cases h : (o.key.toList == []) with
              | false => rfl
              | true => rw [key_nil h] at h_k; cases h_k
            have ht : tolErr o = 0 := by simp [tolErr, opEq, opEx, emptyB, h_b, h_k, h_v0, h_e0, h_e, h_a, h_v, h_k0]
            have HT := Lib.hid ht
            clear ht
            go_enter Tryz.func128, Tryz.ntmps128
            go_wp2_with fail
            refine key_k _ _ o.key HG.out hs.1 ?_
            intro w1 g1
            have B1 := Lib.hid (HB.out.trans (g1.mono HB.out.size))
            have o1 := (g1.block w.heap.size (by simp)).trans OB.out
            have c0 : w1.cell? ⟨w.heap.size, 0, none⟩ = some (.string o.key) := cell_at o1 rfl
            have c1 : w1.cell? ⟨w.heap.size, 1, none⟩ = some (.string o.op) := cell_at o1 rfl
            have c2 : w1.cell? ⟨w.heap.size, 2, none⟩ = some (.string o.val) := cell_at o1 rfl
            have c3 : w1.cell? ⟨w.heap.size, 3, none⟩ = some (.string o.eff) := cell_at o1 rfl
            clear g1 o1
            rw [h_k]
            have hv := HR.out _ B1.out
            rw [HT.out] at hv
            go_wp2_with fail
            refine effect_k _ _ o.eff ?_
            rw [h_e]
            go_wp2_with fail
            exact hv
        | true =>
          have h_a := op_apart h_b
          have h_v := value_nil h_v0
          have h_k0 : (o.key.toList == []) = false := by
            cases h : (o.key.toList == []) with
            | false => rfl
            | true => rw [key_nil h] at h_k; cases h_k
          have ht : tolErr o = 0 := by simp [tolErr, opEq, opEx, emptyB, h_b, h_k, h_v0, h_e0, h_a, h_v, h_k0]
          have HT := Lib.hid ht
          clear ht
          go_enter Tryz.func128, Tryz.ntmps128
          go_wp2_with fail
          refine key_k _ _ o.key HG.out hs.1 ?_
          intro w1 g1
          have B1 := Lib.hid (HB.out.trans (g1.mono HB.out.size))
          have o1 := (g1.block w.heap.size (by simp)).trans OB.out
          have c0 : w1.cell? ⟨w.heap.size, 0, none⟩ = some (.string o.key) := cell_at o1 rfl
          have c1 : w1.cell? ⟨w.heap.size, 1, none⟩ = some (.string o.op) := cell_at o1 rfl
          have c2 : w1.cell? ⟨w.heap.size, 2, none⟩ = some (.string o.val) := cell_at o1 rfl
          have c3 : w1.cell? ⟨w.heap.size, 3, none⟩ = some (.string o.eff) := cell_at o1 rfl
          clear g1 o1
          rw [h_k]
          have hv := HR.out _ B1.out
          rw [HT.out] at hv
          go_wp2_with fail
          exact hv
set_option maxRecDepth 100000 in
set_option maxHeartbeats 8000000 in
theorem rctol_k (R : Ending → World → Prop) (w : World) (o : Tol) (hs : o.key.size ≤ 1048576 ∧ o.val.size ≤ 1048576) (hR : ∀ w', Below w.heap.size w w' → R (.returned (.int .i64 (tolErr o))) w') :
    Calls Tryz.prog 146 #[.agg #[.string o.key, .string o.op, .string o.val, .string o.eff]] w R := by
  have HR := Lib.hid hR
  have HB := Lib.hid (show Below w.heap.size w (w.alloc (.cells #[.string o.key, .string o.op, .string o.val, .string o.eff] 123)) from Below.alloc (Below.refl _ _) (Nat.le_refl _) _)
  have OB := Lib.hid (show (w.alloc (.cells #[.string o.key, .string o.op, .string o.val, .string o.eff] 123)).heap[w.heap.size]? = some (.cells #[.string o.key, .string o.op, .string o.val, .string o.eff] 123) from heap_alloc_new _ _)
  skip
  clear hR
  cases h_a : (o.op.toList == [69, 113, 117, 97, 108]) with
  | false =>
    cases h_b : (o.op.toList == [69, 120, 105, 115, 116, 115]) with
    | false =>
      have ht : tolErr o = 46 := by simp [tolErr, opEq, opEx, emptyB, h_a, h_b]
      have HT := Lib.hid ht
      clear ht
      have hv := HR.out _ HB.out
      rw [HT.out] at hv
      go_enter Tryz.func146, Tryz.ntmps146
      go_wp2_with fail
      exact hv
    | true =>
      cases h_k0 : (o.key.toList == []) with
      | false =>
        cases h_k : keyB o.key with
        | false =>
          have ht : tolErr o = 41 := by simp [tolErr, opEq, opEx, emptyB, h_a, h_b, h_k0, h_k]
          have HT := Lib.hid ht
          clear ht
          go_enter Tryz.func146, Tryz.ntmps146
          go_wp2_with fail
          refine rkey_k _ _ o.key hs.1 ?_
          intro w1 g1
          have B1 := Lib.hid (HB.out.trans (g1.mono HB.out.size))
          have o1 := (g1.block w.heap.size (by simp)).trans OB.out
          have c0 : w1.cell? ⟨w.heap.size, 0, none⟩ = some (.string o.key) := cell_at o1 rfl
          have c1 : w1.cell? ⟨w.heap.size, 1, none⟩ = some (.string o.op) := cell_at o1 rfl
          have c2 : w1.cell? ⟨w.heap.size, 2, none⟩ = some (.string o.val) := cell_at o1 rfl
          have c3 : w1.cell? ⟨w.heap.size, 3, none⟩ = some (.string o.eff) := cell_at o1 rfl
          clear g1 o1
          rw [h_k]
          have hv := HR.out _ B1.out
          rw [HT.out] at hv
          go_wp2_with fail
          exact hv
        | true =>
          cases h_v0 : (o.val.toList == []) with
          | false =>
            have ht : tolErr o = 42 := by simp [tolErr, opEq, opEx, emptyB, h_a, h_b, h_k0, h_k, h_v0]
            have HT := Lib.hid ht
            clear ht
            go_enter Tryz.func146, Tryz.ntmps146
            go_wp2_with fail
            refine rkey_k _ _ o.key hs.1 ?_
            intro w1 g1
            have B1 := Lib.hid (HB.out.trans (g1.mono HB.out.size))
            have o1 := (g1.block w.heap.size (by simp)).trans OB.out
            have c0 : w1.cell? ⟨w.heap.size, 0, none⟩ = some (.string o.key) := cell_at o1 rfl
            have c1 : w1.cell? ⟨w.heap.size, 1, none⟩ = some (.string o.op) := cell_at o1 rfl
            have c2 : w1.cell? ⟨w.heap.size, 2, none⟩ = some (.string o.val) := cell_at o1 rfl
            have c3 : w1.cell? ⟨w.heap.size, 3, none⟩ = some (.string o.eff) := cell_at o1 rfl
            clear g1 o1
            rw [h_k]
            have hv := HR.out _ B1.out
            rw [HT.out] at hv
            go_wp2_with fail
            exact hv
          | true =>
            cases h_v : valueB o.val with
            | false =>
              have ht : tolErr o = 42 := by simp [tolErr, opEq, opEx, emptyB, h_a, h_b, h_k0, h_k, h_v0, h_v]
              have HT := Lib.hid ht
              clear ht
              go_enter Tryz.func146, Tryz.ntmps146
              go_wp2_with fail
              refine rkey_k _ _ o.key hs.1 ?_
              intro w1 g1
              have B1 := Lib.hid (HB.out.trans (g1.mono HB.out.size))
              have o1 := (g1.block w.heap.size (by simp)).trans OB.out
              have c0 : w1.cell? ⟨w.heap.size, 0, none⟩ = some (.string o.key) := cell_at o1 rfl
              have c1 : w1.cell? ⟨w.heap.size, 1, none⟩ = some (.string o.op) := cell_at o1 rfl
              have c2 : w1.cell? ⟨w.heap.size, 2, none⟩ = some (.string o.val) := cell_at o1 rfl
              have c3 : w1.cell? ⟨w.heap.size, 3, none⟩ = some (.string o.eff) := cell_at o1 rfl
              clear g1 o1
              rw [h_k]
              have hv := HR.out _ B1.out
              rw [HT.out] at hv
              go_wp2_with fail
              refine rvalue_k _ _ o.val hs.2 ?_
              rw [h_v]
              go_wp2_with fail
              exact hv
            | true =>
              cases h_e0 : (o.eff.toList == []) with
              | false =>
                cases h_e : effB o.eff with
                | false =>
                  have ht : tolErr o = 40 := by simp [tolErr, opEq, opEx, emptyB, h_a, h_b, h_k0, h_k, h_v0, h_v, h_e0, h_e]
                  have HT := Lib.hid ht
                  clear ht
                  go_enter Tryz.func146, Tryz.ntmps146
                  go_wp2_with fail
                  refine rkey_k _ _ o.key hs.1 ?_
                  intro w1 g1
                  have B1 := Lib.hid (HB.out.trans (g1.mono HB.out.size))
                  have o1 := (g1.block w.heap.size (by simp)).trans OB.out
                  have c0 : w1.cell? ⟨w.heap.size, 0, none⟩ = some (.string o.key) := cell_at o1 rfl
                  have c1 : w1.cell? ⟨w.heap.size, 1, none⟩ = some (.string o.op) := cell_at o1 rfl
                  have c2 : w1.cell? ⟨w.heap.size, 2, none⟩ = some (.string o.val) := cell_at o1 rfl
                  have c3 : w1.cell? ⟨w.heap.size, 3, none⟩ = some (.string o.eff) := cell_at o1 rfl
                  clear g1 o1
                  rw [h_k]
                  have hv := HR.out _ B1.out
                  rw [HT.out] at hv
                  go_wp2_with fail
                  refine rvalue_k _ _ o.val hs.2 ?_
                  rw [h_v]
                  go_wp2_with fail
                  refine reffect_k _ _ o.eff ?_
                  rw [h_e]
                  go_wp2_with fail
                  exact hv
                | true =>
                  have ht : tolErr o = 0 := by simp [tolErr, opEq, opEx, emptyB, h_a, h_b, h_k0, h_k, h_v0, h_v, h_e0, h_e]
                  have HT := Lib.hid ht
                  clear ht
                  go_enter Tryz.func146, Tryz.ntmps146
                  go_wp2_with fail
                  refine rkey_k _ _ o.key hs.1 ?_
                  intro w1 g1
                  have B1 := Lib.hid (HB.out.trans (g1.mono HB.out.size))
                  have o1 := (g1.block w.heap.size (by simp)).trans OB.out
                  have c0 : w1.cell? ⟨w.heap.size, 0, none⟩ = some (.string o.key) := cell_at o1 rfl
                  have c1 : w1.cell? ⟨w.heap.size, 1, none⟩ = some (.string o.op) := cell_at o1 rfl
                  have c2 : w1.cell? ⟨w.heap.size, 2, none⟩ = some (.string o.val) := cell_at o1 rfl
                  have c3 : w1.cell? ⟨w.heap.size, 3, none⟩ = some (.string o.eff) := cell_at o1 rfl
                  clear g1 o1
                  rw [h_k]
                  have hv := HR.out _ B1.out
                  rw [HT.out] at hv
                  go_wp2_with fail
                  refine rvalue_k _ _ o.val hs.2 ?_
                  rw [h_v]
                  go_wp2_with fail
                  refine reffect_k _ _ o.eff ?_
                  rw [h_e]
                  go_wp2_with fail
                  exact hv
              | true =>
                have ht : tolErr o = 0 := by simp [tolErr, opEq, opEx, emptyB, h_a, h_b, h_k0, h_k, h_v0, h_v, h_e0]
                have HT := Lib.hid ht
                clear ht
                go_enter Tryz.func146, Tryz.ntmps146
                go_wp2_with fail
                refine rkey_k _ _ o.key hs.1 ?_
                intro w1 g1
                have B1 := Lib.hid (HB.out.trans (g1.mono HB.out.size))
                have o1 := (g1.block w.heap.size (by simp)).trans OB.out
                have c0 : w1.cell? ⟨w.heap.size, 0, none⟩ = some (.string o.key) := cell_at o1 rfl
                have c1 : w1.cell? ⟨w.heap.size, 1, none⟩ = some (.string o.op) := cell_at o1 rfl
                have c2 : w1.cell? ⟨w.heap.size, 2, none⟩ = some (.string o.val) := cell_at o1 rfl
                have c3 : w1.cell? ⟨w.heap.size, 3, none⟩ = some (.string o.eff) := cell_at o1 rfl
                clear g1 o1
                rw [h_k]
                have hv := HR.out _ B1.out
                rw [HT.out] at hv
                go_wp2_with fail
                refine rvalue_k _ _ o.val hs.2 ?_
                rw [h_v]
                go_wp2_with fail
                exact hv
      | true =>
        cases h_v0 : (o.val.toList == []) with
        | false =>
          have ht : tolErr o = 42 := by simp [tolErr, opEq, opEx, emptyB, h_a, h_b, h_k0, h_v0]
          have HT := Lib.hid ht
          clear ht
          have hv := HR.out _ HB.out
          rw [HT.out] at hv
          go_enter Tryz.func146, Tryz.ntmps146
          go_wp2_with fail
          exact hv
        | true =>
          cases h_v : valueB o.val with
          | false =>
            have ht : tolErr o = 42 := by simp [tolErr, opEq, opEx, emptyB, h_a, h_b, h_k0, h_v0, h_v]
            have HT := Lib.hid ht
            clear ht
            have hv := HR.out _ HB.out
            rw [HT.out] at hv
            go_enter Tryz.func146, Tryz.ntmps146
            go_wp2_with fail
            refine rvalue_k _ _ o.val hs.2 ?_
            rw [h_v]
            go_wp2_with fail
            exact hv
          | true =>
            cases h_e0 : (o.eff.toList == []) with
            | false =>
              cases h_e : effB o.eff with
              | false =>
                have ht : tolErr o = 40 := by simp [tolErr, opEq, opEx, emptyB, h_a, h_b, h_k0, h_v0, h_v, h_e0, h_e]
                have HT := Lib.hid ht
                clear ht
                have hv := HR.out _ HB.out
                rw [HT.out] at hv
                go_enter Tryz.func146, Tryz.ntmps146
                go_wp2_with fail
                refine rvalue_k _ _ o.val hs.2 ?_
                rw [h_v]
                go_wp2_with fail
                refine reffect_k _ _ o.eff ?_
                rw [h_e]
                go_wp2_with fail
                exact hv
              | true =>
                have ht : tolErr o = 0 := by simp [tolErr, opEq, opEx, emptyB, h_a, h_b, h_k0, h_v0, h_v, h_e0, h_e]
                have HT := Lib.hid ht
                clear ht
                have hv := HR.out _ HB.out
                rw [HT.out] at hv
                go_enter Tryz.func146, Tryz.ntmps146
                go_wp2_with fail
                refine rvalue_k _ _ o.val hs.2 ?_
                rw [h_v]
                go_wp2_with fail
                refine reffect_k _ _ o.eff ?_
                rw [h_e]
                go_wp2_with fail
                exact hv
            | true =>
              have ht : tolErr o = 0 := by simp [tolErr, opEq, opEx, emptyB, h_a, h_b, h_k0, h_v0, h_v, h_e0]
              have HT := Lib.hid ht
              clear ht
              have hv := HR.out _ HB.out
              rw [HT.out] at hv
              go_enter Tryz.func146, Tryz.ntmps146
              go_wp2_with fail
              refine rvalue_k _ _ o.val hs.2 ?_
              rw [h_v]
              go_wp2_with fail
              exact hv
  | true =>
    cases h_b : (o.op.toList == [69, 120, 105, 115, 116, 115]) with
    | false =>
      cases h_k0 : (o.key.toList == []) with
      | false =>
        cases h_k : keyB o.key with
        | false =>
          have ht : tolErr o = 41 := by simp [tolErr, opEq, opEx, emptyB, h_a, h_b, h_k0, h_k]
          have HT := Lib.hid ht
          clear ht
          go_enter Tryz.func146, Tryz.ntmps146
          go_wp2_with fail
          refine rkey_k _ _ o.key hs.1 ?_
          intro w1 g1
          have B1 := Lib.hid (HB.out.trans (g1.mono HB.out.size))
          have o1 := (g1.block w.heap.size (by simp)).trans OB.out
          have c0 : w1.cell? ⟨w.heap.size, 0, none⟩ = some (.string o.key) := cell_at o1 rfl
          have c1 : w1.cell? ⟨w.heap.size, 1, none⟩ = some (.string o.op) := cell_at o1 rfl
          have c2 : w1.cell? ⟨w.heap.size, 2, none⟩ = some (.string o.val) := cell_at o1 rfl
          have c3 : w1.cell? ⟨w.heap.size, 3, none⟩ = some (.string o.eff) := cell_at o1 rfl
          clear g1 o1
          rw [h_k]
          have hv := HR.out _ B1.out
          rw [HT.out] at hv
          go_wp2_with fail
          exact hv
        | true =>
          cases h_v : valueB o.val with
          | false =>
            have ht : tolErr o = 42 := by simp [tolErr, opEq, opEx, emptyB, h_a, h_b, h_k0, h_k, h_v]
            have HT := Lib.hid ht
            clear ht
            go_enter Tryz.func146, Tryz.ntmps146
            go_wp2_with fail
            refine rkey_k _ _ o.key hs.1 ?_
            intro w1 g1
            have B1 := Lib.hid (HB.out.trans (g1.mono HB.out.size))
            have o1 := (g1.block w.heap.size (by simp)).trans OB.out
            have c0 : w1.cell? ⟨w.heap.size, 0, none⟩ = some (.string o.key) := cell_at o1 rfl
            have c1 : w1.cell? ⟨w.heap.size, 1, none⟩ = some (.string o.op) := cell_at o1 rfl
            have c2 : w1.cell? ⟨w.heap.size, 2, none⟩ = some (.string o.val) := cell_at o1 rfl
            have c3 : w1.cell? ⟨w.heap.size, 3, none⟩ = some (.string o.eff) := cell_at o1 rfl
            clear g1 o1
            rw [h_k]
            have hv := HR.out _ B1.out
            rw [HT.out] at hv
            go_wp2_with fail
            refine rvalue_k _ _ o.val hs.2 ?_
            rw [h_v]
            go_wp2_with fail
            exact hv
          | true =>
            cases h_e0 : (o.eff.toList == []) with
            | false =>
              cases h_e : effB o.eff with
              | false =>
                have ht : tolErr o = 40 := by simp [tolErr, opEq, opEx, emptyB, h_a, h_b, h_k0, h_k, h_v, h_e0, h_e]
                have HT := Lib.hid ht
                clear ht
                go_enter Tryz.func146, Tryz.ntmps146
                go_wp2_with fail
                refine rkey_k _ _ o.key hs.1 ?_
                intro w1 g1
                have B1 := Lib.hid (HB.out.trans (g1.mono HB.out.size))
                have o1 := (g1.block w.heap.size (by simp)).trans OB.out
                have c0 : w1.cell? ⟨w.heap.size, 0, none⟩ = some (.string o.key) := cell_at o1 rfl
                have c1 : w1.cell? ⟨w.heap.size, 1, none⟩ = some (.string o.op) := cell_at o1 rfl
                have c2 : w1.cell? ⟨w.heap.size, 2, none⟩ = some (.string o.val) := cell_at o1 rfl
                have c3 : w1.cell? ⟨w.heap.size, 3, none⟩ = some (.string o.eff) := cell_at o1 rfl
                clear g1 o1
                rw [h_k]
                have hv := HR.out _ B1.out
                rw [HT.out] at hv
                go_wp2_with fail
                refine rvalue_k _ _ o.val hs.2 ?_
                rw [h_v]
                go_wp2_with fail
                refine reffect_k _ _ o.eff ?_
                rw [h_e]
                go_wp2_with fail
                exact hv
              | true =>
                have ht : tolErr o = 0 := by simp [tolErr, opEq, opEx, emptyB, h_a, h_b, h_k0, h_k, h_v, h_e0, h_e]
                have HT := Lib.hid ht
                clear ht
                go_enter Tryz.func146, Tryz.ntmps146
                go_wp2_with fail
                refine rkey_k _ _ o.key hs.1 ?_
                intro w1 g1
                have B1 := Lib.hid (HB.out.trans (g1.mono HB.out.size))
                have o1 := (g1.block w.heap.size (by simp)).trans OB.out
                have c0 : w1.cell? ⟨w.heap.size, 0, none⟩ = some (.string o.key) := cell_at o1 rfl
                have c1 : w1.cell? ⟨w.heap.size, 1, none⟩ = some (.string o.op) := cell_at o1 rfl
                have c2 : w1.cell? ⟨w.heap.size, 2, none⟩ = some (.string o.val) := cell_at o1 rfl
                have c3 : w1.cell? ⟨w.heap.size, 3, none⟩ = some (.string o.eff) := cell_at o1 rfl
                clear g1 o1
                rw [h_k]
                have hv := HR.out _ B1.out
                rw [HT.out] at hv
                go_wp2_with fail
                refine rvalue_k _ _ o.val hs.2 ?_
                rw [h_v]
                go_wp2_with fail
                refine reffect_k _ _ o.eff ?_
                rw [h_e]
                go_wp2_with fail
                exact hv
            | true =>
              have ht : tolErr o = 0 := by simp [tolErr, opEq, opEx, emptyB, h_a, h_b, h_k0, h_k, h_v, h_e0]
              have HT := Lib.hid ht
              clear ht
              go_enter Tryz.func146, Tryz.ntmps146
              go_wp2_with fail
              refine rkey_k _ _ o.key hs.1 ?_
              intro w1 g1
              have B1 := Lib.hid (HB.out.trans (g1.mono HB.out.size))
              have o1 := (g1.block w.heap.size (by simp)).trans OB.out
              have c0 : w1.cell? ⟨w.heap.size, 0, none⟩ = some (.string o.key) := cell_at o1 rfl
              have c1 : w1.cell? ⟨w.heap.size, 1, none⟩ = some (.string o.op) := cell_at o1 rfl
              have c2 : w1.cell? ⟨w.heap.size, 2, none⟩ = some (.string o.val) := cell_at o1 rfl
              have c3 : w1.cell? ⟨w.heap.size, 3, none⟩ = some (.string o.eff) := cell_at o1 rfl
              clear g1 o1
              rw [h_k]
              have hv := HR.out _ B1.out
              rw [HT.out] at hv
              go_wp2_with fail
              refine rvalue_k _ _ o.val hs.2 ?_
              rw [h_v]
              go_wp2_with fail
              exact hv
      | true =>
        have ht : tolErr o = 41 := by simp [tolErr, opEq, opEx, emptyB, h_a, h_b, h_k0]
        have HT := Lib.hid ht
        clear ht
        have hv := HR.out _ HB.out
        rw [HT.out] at hv
        go_enter Tryz.func146, Tryz.ntmps146
        go_wp2_with fail
        exact hv
    | true =>
      exact absurd h_b (by rw [opEx_of (by assumption)]; simp)
end Go.Proofs.YtdceflgemhcgcaaGreatDoor

namespace Go.Proofs.YtdceflgemhcgcaaGreatDoor
open Go.RowKit Go.BigFrame

def lowcI (c : Int) : Bool := decide (97 ≤ c) && decide (c ≤ 122)
def digcI (c : Int) : Bool := decide (48 ≤ c) && decide (c ≤ 57)
def inscI (c : Int) : Bool := decide (c = 45) || decide (c = 46) || decide (c = 47)
def okAt (n k : Nat) (c : Int) : Bool := lowcI c || (digcI c && decide (0 < k)) || (inscI c && decide (0 < k) && decide (k + 1 < n))
def itemB (s : ByteArray) : Bool := decide (1 ≤ s.size) && decide (s.size ≤ 32) && (List.range s.size).all fun k => okAt s.size k (cd s k)
theorem item_bad {s : ByteArray} {k : Nat} (hk : k < s.size) (h : okAt s.size k (cd s k) = false) : itemB s = false := by
  unfold itemB
  have : ((List.range s.size).all fun k => okAt s.size k (cd s k)) = false := by
    rw [Bool.eq_false_iff]
    intro ha
    rw [List.all_eq_true] at ha
    have := ha k (List.mem_range.2 hk)
    rw [h] at this
    cases this
  rw [this, Bool.and_false]
theorem item_good {s : ByteArray} (h1 : 1 ≤ s.size) (h2 : s.size ≤ 32) (h : ∀ j, j < s.size → okAt s.size j (cd s j) = true) : itemB s = true := by
  unfold itemB
  rw [decide_eq_true h1, decide_eq_true h2, Bool.true_and, Bool.true_and, List.all_eq_true]
  exact fun k hk => h k (List.mem_range.1 hk)
theorem item_size {s : ByteArray} (h : ¬ (1 ≤ s.size ∧ s.size ≤ 32)) : itemB s = false := by
  unfold itemB
  by_cases h1 : 1 ≤ s.size
  · rw [decide_eq_false (show ¬ s.size ≤ 32 from fun h2 => h ⟨h1, h2⟩), Bool.and_false, Bool.false_and]
  · rw [decide_eq_false h1, Bool.false_and, Bool.false_and]
theorem okAt_iff {n k : Nat} {c : Int} : okAt n k c = true ↔ (97 ≤ c ∧ c ≤ 122) ∨ (48 ≤ c ∧ c ≤ 57 ∧ 0 < k) ∨ ((c = 45 ∨ c = 46 ∨ c = 47) ∧ 0 < k ∧ k + 1 < n) := by
  unfold okAt lowcI digcI inscI
  simp only [Bool.or_eq_true, Bool.and_eq_true, decide_eq_true_eq]
  omega
theorem okAt_not {n k : Nat} {c : Int} (h : ¬ ((97 ≤ c ∧ c ≤ 122) ∨ (48 ≤ c ∧ c ≤ 57 ∧ 0 < k) ∨ ((c = 45 ∨ c = 46 ∨ c = 47) ∧ 0 < k ∧ k + 1 < n))) : okAt n k c = false := by
  rw [Bool.eq_false_iff]
  exact fun e => h (okAt_iff.1 e)
set_option maxRecDepth 100000 in
set_option maxHeartbeats 8000000 in
theorem qname_k (R : Ending → World → Prop) (w : World) (s : ByteArray) (hs : s.size ≤ 1048576) (hR : R (.returned (.bool (itemB s))) w) : Calls Tryz.prog 123 #[.string s] w R := by
  have HR := Lib.hid hR
  clear hR
  by_cases h1 : 1 ≤ s.size ∧ s.size ≤ 32
  · obtain ⟨l1, l2⟩ := h1
    have i1 : ¬ ((s.size : Int) < 1) := by omega
    have i2 : ¬ ((32 : Int) < (s.size : Int)) := by omega
    go_enter Tryz.func123, Tryz.ntmps123
    go_wp2_with fail
    go_loopw [3] (fun i wr => ∃ k : Nat, k ≤ s.size ∧ i = .int .i64 k ∧ wr = w ∧ ∀ j, j < k → okAt s.size j (cd s j) = true) (fun i _ => s.size - (intOf i).toNat)
    case atStart => exact ⟨0, Nat.zero_le _, rfl, by first | rfl | trivial, fun _ h => absurd h (Nat.not_lt_zero _)⟩
    case round =>
      obtain ⟨k, hk, rfl, rfl, hz⟩ := hrel
      have HZ := Lib.hid hz
      clear hz
      by_cases hlt : k < s.size
      · have hc := cd_at s k hlt
        obtain ⟨c, hcd⟩ : ∃ c, c = cd s k := ⟨_, rfl⟩
        rw [← hcd] at hc
        have HF := Lib.hid (show okAt s.size k c = false → R (.returned (.bool false)) wr from fun h => by
          have := HR.out
          rw [hcd] at h
          rwa [item_bad hlt h] at this)
        have HG := Lib.hid (show okAt s.size k c = true → ∀ j, j < k + 1 → okAt s.size j (cd s j) = true from fun h j hj => by
          rcases Nat.lt_or_ge j k with h2 | h2
          · exact HZ.out j h2
          · obtain rfl : j = k := by omega
            rw [← hcd]; exact h)
        clear hcd
        go_wp2_with fail
        all_goals first
          | exact HF.out (okAt_not (by omega))
          | exact ⟨⟨k + 1, by omega, by go_num, by first | rfl | trivial, HG.out (okAt_iff.2 (by omega))⟩, by simp [intOf]; omega⟩
          | (try simp only [Bool.not_eq_false', Bool.not_eq_true', beq_iff_eq, beq_eq_false_iff_ne, ne_eq, decide_eq_true_eq, decide_eq_false_iff_not] at *
             first
             | exact HF.out (okAt_not (by omega))
             | exact ⟨⟨k + 1, by omega, by go_num, by first | rfl | trivial, HG.out (okAt_iff.2 (by omega))⟩, by simp [intOf]; omega⟩)
      · have hv := HR.out
        rw [item_good l1 l2 (fun j hj => HZ.out j (by omega))] at hv
        obtain rfl : k = s.size := by omega
        go_wp2_with fail
        exact hv
  · have hv := HR.out
    rw [item_size h1] at hv
    have h3 : s.size < 1 ∨ 32 < s.size := by omega
    clear h1
    by_cases h2 : s.size < 1
    · have i1 : (s.size : Int) < 1 := by omega
      go_enter Tryz.func123, Tryz.ntmps123
      go_wp2_with fail
      exact hv
    · have i1 : ¬ (s.size : Int) < 1 := by omega
      have i2 : (32 : Int) < (s.size : Int) := by
        have := h3
        omega
      go_enter Tryz.func123, Tryz.ntmps123
      go_wp2_with fail
      all_goals first
        | exact hv
        | omega
set_option maxRecDepth 100000 in
set_option maxHeartbeats 8000000 in
theorem rqname_k (R : Ending → World → Prop) (w : World) (s : ByteArray) (hs : s.size ≤ 1048576) (hR : R (.returned (.bool (itemB s))) w) : Calls Tryz.prog 143 #[.string s] w R := by
  have HR := Lib.hid hR
  clear hR
  by_cases h1 : 1 ≤ s.size ∧ s.size ≤ 32
  · obtain ⟨l1, l2⟩ := h1
    have i1 : ¬ ((s.size : Int) < 1) := by omega
    have i2 : ¬ ((32 : Int) < (s.size : Int)) := by omega
    go_enter Tryz.func143, Tryz.ntmps143
    go_wp2_with fail
    go_loopw [3] (fun i wr => ∃ k : Nat, k ≤ s.size ∧ i = .int .i64 k ∧ wr = w ∧ ∀ j, j < k → okAt s.size j (cd s j) = true) (fun i _ => s.size - (intOf i).toNat)
    case atStart => exact ⟨0, Nat.zero_le _, rfl, by first | rfl | trivial, fun _ h => absurd h (Nat.not_lt_zero _)⟩
    case round =>
      obtain ⟨k, hk, rfl, rfl, hz⟩ := hrel
      have HZ := Lib.hid hz
      clear hz
      by_cases hlt : k < s.size
      · have hc := cd_at s k hlt
        obtain ⟨c, hcd⟩ : ∃ c, c = cd s k := ⟨_, rfl⟩
        rw [← hcd] at hc
        have HF := Lib.hid (show okAt s.size k c = false → R (.returned (.bool false)) wr from fun h => by
          have := HR.out
          rw [hcd] at h
          rwa [item_bad hlt h] at this)
        have HG := Lib.hid (show okAt s.size k c = true → ∀ j, j < k + 1 → okAt s.size j (cd s j) = true from fun h j hj => by
          rcases Nat.lt_or_ge j k with h2 | h2
          · exact HZ.out j h2
          · obtain rfl : j = k := by omega
            rw [← hcd]; exact h)
        clear hcd
        go_wp2_with fail
        all_goals first
          | exact HF.out (okAt_not (by omega))
          | exact ⟨⟨k + 1, by omega, by go_num, by first | rfl | trivial, HG.out (okAt_iff.2 (by omega))⟩, by simp [intOf]; omega⟩
          | (try simp only [Bool.not_eq_false', Bool.not_eq_true', beq_iff_eq, beq_eq_false_iff_ne, ne_eq, decide_eq_true_eq, decide_eq_false_iff_not] at *
             first
             | exact HF.out (okAt_not (by omega))
             | exact ⟨⟨k + 1, by omega, by go_num, by first | rfl | trivial, HG.out (okAt_iff.2 (by omega))⟩, by simp [intOf]; omega⟩)
      · have hv := HR.out
        rw [item_good l1 l2 (fun j hj => HZ.out j (by omega))] at hv
        obtain rfl : k = s.size := by omega
        go_wp2_with fail
        exact hv
  · have hv := HR.out
    rw [item_size h1] at hv
    have h3 : s.size < 1 ∨ 32 < s.size := by omega
    clear h1
    by_cases h2 : s.size < 1
    · have i1 : (s.size : Int) < 1 := by omega
      go_enter Tryz.func143, Tryz.ntmps143
      go_wp2_with fail
      exact hv
    · have i1 : ¬ (s.size : Int) < 1 := by omega
      have i2 : (32 : Int) < (s.size : Int) := by
        have := h3
        omega
      go_enter Tryz.func143, Tryz.ntmps143
      go_wp2_with fail
      all_goals first
        | exact hv
        | omega
end Go.Proofs.YtdceflgemhcgcaaGreatDoor
