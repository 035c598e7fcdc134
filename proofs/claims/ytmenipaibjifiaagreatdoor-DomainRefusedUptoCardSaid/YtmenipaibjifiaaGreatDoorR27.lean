/-
maps.EqualFunc of two empty maps; domain.Same of two empty ones.
maps.EqualFunc of what is kept of the nodes, and of the guests; domain.Same's closure.
-/
import Derived.Test.YtmenipaibjifiaaGreatDoorR26
import Derived.Maps.Range
import Derived.Maps.RangeRun
import Derived.Test.YtmenipaibjifiaaGreatDoorR18
import Derived.Test.YtmenipaibjifiaaGreatDoorR25
set_option linter.unusedVariables false
set_option linter.unusedSimpArgs false
namespace Go.Proofs.YtmenipaibjifiaaGreatDoor
open Go.RowKit Go.BigFrame

theorem map_nil_at {κ : Type} [DecidableEq κ] {enc : κ → Value} {w : World} {b : Nat} (h : MapAt enc w b []) : ∃ c, w.heap[b]? = some (.map #[] c) := by
  obtain ⟨es, c, h1, h2, _⟩ := h
  have : es = #[] := by
    have := congrArg List.length h2
    simp at this
    exact this
  exact ⟨c, by rw [h1, this]⟩
theorem map_len0 {P : Program} {w : World} {b : Nat} {es : Array MapEntry} {c : Nat} (h : w.heap[b]? = some (.map es c)) {t kt e ty : TypeId} (ht : P.underlying t = some (.map kt e)) :
    (Builtin.len_ #[t] ty #[.map (some b)]).run P w = .ok (.int .i64 (es.size : Int)) w := by
  unfold Builtin.len_
  simp [run_underlying ht, MapKept.run_getObj_map h, goInt]
theorem map_range {P : Program} {w : World} {b : Nat} {es : Array MapEntry} {c : Nat} (h : w.heap[b]? = some (.map es c)) {t kt e : TypeId} (ht : P.underlying t = some (.map kt e)) :
    (Instr.range t (.map (some b))).run P w = .ok (.pointer (some ⟨w.heap.size, 0, none⟩)) (w.alloc (.mapIter (some b) c #[] c)) := by
  unfold Instr.range
  simp [run_underlying ht, MapKept.run_getObj_map h, run_newObj_alloc]
theorem map_next_empty {P : Program} {w : World} {b r c c0 : Nat} (hr : w.heap[r]? = some (.mapIter (some b) c #[] c0)) (hb : w.heap[b]? = some (.map #[] c)) (hc : c ≤ c0) (ty : TypeId) :
    (Instr.next (.pointer (some ⟨r, 0, none⟩)) false ty).run P w = .ok (.tuple #[.bool false]) w := by
  rcases run_next_at (P := P) w ty r b c c0 #[] #[] c hr hb (fun x hx => by simp at hx) hc with ⟨_, h⟩ | ⟨e, he, _⟩
  · exact h
  · simp [leftOf] at he
set_option maxRecDepth 100000 in
set_option maxHeartbeats 4000000 in
theorem eqfA_k (R : Ending → World → Prop) (w : World) (b1 b2 c1 c2 : Nat) (fv : Value) (h1 : w.heap[b1]? = some (.map #[] c1)) (h2 : w.heap[b2]? = some (.map #[] c2)) (hR : ∀ w', Below w.heap.size w w' → R (.returned (.bool true)) w') :
    Calls Tryz.prog 70 #[.map (some b1), .map (some b2), fv] w R := by
  have HR := Lib.hid hR
  clear hR
  have l1 := map_len0 (P := Tryz.prog) (ty := 3) h1 Tryz.underlying118
  have l2 := map_len0 (P := Tryz.prog) (ty := 3) h2 Tryz.underlying118
  have l3 := map_range (P := Tryz.prog) h1 Tryz.underlying118
  simp only [List.size_toArray, List.length_nil, Int.natCast_zero] at l1 l2
  have i1 : (w.alloc (.mapIter (some b1) c1 #[] c1)).heap[w.heap.size]? = some (.mapIter (some b1) c1 #[] c1) := heap_alloc_new _ _
  have i2 := heap_keep h1 (.mapIter (some b1) c1 #[] c1)
  have l4 := map_next_empty (P := Tryz.prog) i1 i2 (Nat.le_refl _) 0
  have hv := HR.out _ (Below.alloc (Below.refl _ _) (Nat.le_refl _) (.mapIter (some b1) c1 #[] c1))
  clear i1 i2 h1 h2
  go_enter Tryz.func70, Tryz.ntmps70
  go_wp2_with fail
  go_loop [18, 19] (fun _ _ => True) (fun _ _ => 0)
  case atStart => trivial
  case round =>
    go_wp2_with fail
    exact hv
set_option maxRecDepth 100000 in
set_option maxHeartbeats 4000000 in
theorem eqfB_k (R : Ending → World → Prop) (w : World) (b1 b2 c1 c2 : Nat) (fv : Value) (h1 : w.heap[b1]? = some (.map #[] c1)) (h2 : w.heap[b2]? = some (.map #[] c2)) (hR : ∀ w', Below w.heap.size w w' → R (.returned (.bool true)) w') :
    Calls Tryz.prog 72 #[.map (some b1), .map (some b2), fv] w R := by
  have HR := Lib.hid hR
  clear hR
  have l1 := map_len0 (P := Tryz.prog) (ty := 3) h1 Tryz.underlying119
  have l2 := map_len0 (P := Tryz.prog) (ty := 3) h2 Tryz.underlying119
  have l3 := map_range (P := Tryz.prog) h1 Tryz.underlying119
  simp only [List.size_toArray, List.length_nil, Int.natCast_zero] at l1 l2
  have i1 : (w.alloc (.mapIter (some b1) c1 #[] c1)).heap[w.heap.size]? = some (.mapIter (some b1) c1 #[] c1) := heap_alloc_new _ _
  have i2 := heap_keep h1 (.mapIter (some b1) c1 #[] c1)
  have l4 := map_next_empty (P := Tryz.prog) i1 i2 (Nat.le_refl _) 0
  have hv := HR.out _ (Below.alloc (Below.refl _ _) (Nat.le_refl _) (.mapIter (some b1) c1 #[] c1))
  clear i1 i2 h1 h2
  go_enter Tryz.func72, Tryz.ntmps72
  go_wp2_with fail
  go_loop [18, 19] (fun _ _ => True) (fun _ _ => 0)
  case atStart => trivial
  case round =>
    go_wp2_with fail
    exact hv
end Go.Proofs.YtmenipaibjifiaaGreatDoor

namespace Go.Proofs.YtmenipaibjifiaaGreatDoor
open Go.RowKit Go.BigFrame

theorem Below.of_mod {w wr w' : World} {r : Nat} (hb : Below w.heap.size w wr) (hM : Mod (fun k => k = r) wr w') (hr : w.heap.size ≤ r) : Below w.heap.size w w' :=
  hb.trans (hM.below hb.size (fun k hk => by omega))
/-- domain.Same's closure: two guests are the same. -/
def guestV (u : Value) (n : Int) : Value := .agg #[u, .int .i64 n]
set_option maxRecDepth 100000 in
set_option maxHeartbeats 4000000 in
theorem clo_k (R : Ending → World → Prop) (w : World) (ok : Nat → Prop) (u1 u2 : Value) (l1 l2 : List Lab) (n1 n2 : Int) (hok : ∀ k, ok k → k < w.heap.size) (hx : Labs w ok u1 l1) (hy : Labs w ok u2 l2) (hl : l1.length ≤ 1073741824) (hl' : l2.length ≤ 1073741824)
    (hR : ∀ w', Below w.heap.size w w' → R (.returned (.bool (decide ((l1, n1) = (l2, n2))))) w') :
    Calls Tryz.prog 73 #[.agg #[u1, .int .i64 n1], .agg #[u2, .int .i64 n2]] w R := by
  have HB := Lib.hid (show Below w.heap.size w ((w.alloc (.cells #[u1, .int .i64 n1] 139)).alloc (.cells #[u2, .int .i64 n2] 139)) from Below.alloc (Below.alloc (Below.refl _ _) (Nat.le_refl _) _) (by simp) _)
  obtain ⟨A1, c1, rfl, _, _⟩ := hx.form
  obtain ⟨A2, c2, rfl, _, _⟩ := hy.form
  have HX := Lib.hid (hx.below labOk HB.out hok)
  have HY := Lib.hid (hy.below labOk HB.out hok)
  have HOK := Lib.hid (show ∀ k, ok k → k < ((w.alloc (.cells #[.slice A1 l1.length c1, .int .i64 n1] 139)).alloc (.cells #[.slice A2 l2.length c2, .int .i64 n2] 139)).heap.size from fun k h => Nat.lt_of_lt_of_le (hok k h) HB.out.size)
  have HR := Lib.hid hR
  clear hR hx hy hok
  by_cases hn : n1 = n2
  · subst hn
    go_enter Tryz.func73, Tryz.ntmps73
    go_wp2_with fail
    refine equal_k _ _ ok _ _ l1 l2 HOK.out HX.out HY.out hl hl' ?_
    intro w' g'
    have hv := HR.out w' (HB.out.trans (g'.mono HB.out.size))
    rw [show decide ((l1, n1) = (l2, n1)) = decide (l1 = l2) by simp] at hv
    clear g'
    go_wp2_with fail
    exact hv
  · have hv := HR.out _ HB.out
    rw [show decide ((l1, n1) = (l2, n2)) = false by simp [hn]] at hv
    have hne : decide (n1 = n2) = false := by simp [hn]
    go_enter Tryz.func73, Tryz.ntmps73
    go_wp2_with fail
    exact hv
set_option maxRecDepth 100000 in
set_option maxHeartbeats 8000000 in
theorem eqfA_g (R : Ending → World → Prop) (w : World) (ok : Nat → Prop) (b1 b2 : Nat) (f1 f2 : Int → Option (List Lab)) (h1 : FMap (Value.int .i64) w b1 (fun _ v l => Labs w ok v l) f1) (h2 : FMap (Value.int .i64) w b2 (fun _ v l => Labs w ok v l) f2) (hok : ∀ k, ok k → k < w.heap.size)
    (s1 : ∀ k l, f1 k = some l → l.length ≤ 1073741824) (s2 : ∀ k l, f2 k = some l → l.length ≤ 1073741824)
    (hR : ∀ q w', Below w.heap.size w w' → (q = true ↔ ∀ k, f1 k = f2 k) → R (.returned (.bool q)) w') :
    Calls Tryz.prog 70 #[.map (some b1), .map (some b2), .func (.func 71) #[] #[]] w R := by
  have HR := Lib.hid hR
  have HOK := Lib.hid hok
  have S1 := Lib.hid s1
  have S2 := Lib.hid s2
  clear hR hok s1 s2
  obtain ⟨m1, hm1, o1⟩ := h1
  obtain ⟨m2, hm2, o2⟩ := h2
  have O1 := Lib.hid o1
  have O2 := Lib.hid o2
  have N1 := Lib.hid hm1.nodup
  have N2 := Lib.hid hm2.nodup
  have l1 := hm1.len (P := Tryz.prog) (ty := 3) Tryz.underlying118
  have l2 := hm2.len (P := Tryz.prog) (ty := 3) Tryz.underlying118
  clear o1 o2
  by_cases hl : m1.length = m2.length
  · rw [← hl] at l2
    have HL := Lib.hid hl
    clear hl
    obtain ⟨o, l3, hit⟩ := hm1.range (P := Tryz.prog) Tryz.underlying118
    have HIT := Lib.hid hit
    have HM2 := Lib.hid hm2
    have HB := Lib.hid (Below.alloc (Below.refl _ _) (Nat.le_refl _) o : Below w.heap.size w (w.alloc o))
    clear hit hm2 hm1
    go_enter Tryz.func70, Tryz.ntmps70
    go_wp2_with fail
    clear l1 l2 l3
    go_loopw [18] (fun _ wr => ∃ n, ItAt (Value.int .i64) wr w.heap.size b1 m1 (fun k => f1 k = f2 k) n ∧ Below w.heap.size w wr) (fun _ wr => wr.rangeLeft b1 w.heap.size)
    case atStart => exact ⟨_, HIT.out.mono (fun _ h => h.elim), HB.out⟩
    case round =>
      obtain ⟨n, hit, hb⟩ := hrel
      have hleft := Lib.hid hit.left
      rcases hit.next (P := Tryz.prog) (fun x y h => by injection h) hit.ne 0 with ⟨hall, hrun⟩ | ⟨p, hp, w1, n', hlt, hrun, hit1, hM, hen⟩
      · have hv := HR.out true wr hb (by simpa using eqf_good N1.out N2.out HL.out O1.out O2.out hall)
        clear hall hit hb
        go_wp2_with fail
        exact hv
      · obtain ⟨k, v⟩ := p
        dsimp only at hrun hen hit1
        have hg1 : aget m1 k = some v := aget_of_mem N1.out hp
        have ho1 := O1.out k
        rw [hg1] at ho1
        have hb1 := Below.of_mod hb hM (Nat.le_refl _)
        have hm2 := HM2.out.move (w' := w1) (hb1.block _ HM2.out.lt)
        have HMW := Lib.hid hm2
        have HIT1 := Lib.hid hit1
        have HB1 := Lib.hid hb1
        have HLT := Lib.hid hlt
        clear hit hit1 hb hb1 hM hm2 hp hg1 hlt
        cases e1 : f1 k with
        | none => rw [e1] at ho1; exact ho1.elim
        | some x =>
          rw [e1] at ho1
          have E1 := Lib.hid e1
          clear e1

          have l4 := (HMW.out.move (w' := w1) rfl).lookup intK Tryz.underlying118 (P := Tryz.prog) (z := .slice none 0 0) (by kernel_rfl) k true
          simp only [if_true] at l4
          cases e2 : f2 k with
          | none =>
            have hn := O2.out k
            rw [e2] at hn
            rw [hn.none_l] at l4
            simp only [Option.getD_none, Option.isSome_none] at l4
            have hv := HR.out false (w1) HB1.out ⟨fun h => (by cases h), fun h => by have := h k; rw [E1.out, e2] at this; cases this⟩
            clear hn e2 ho1
            go_wp2_with fail
            exact hv
          | some y =>
            obtain ⟨v2, hv2, ho2⟩ : ∃ v2, aget m2 k = some v2 ∧ _ := by
              have hn := O2.out k
              rw [e2] at hn
              exact hn.some_l
            rw [hv2] at l4
            simp only [Option.getD_some, Option.isSome_some] at l4
            have E2 := Lib.hid e2
            clear e2 hv2
            have HX := Lib.hid (show Labs w1 ok v x from SlK.move labOk ho1 (fun j hj => HB1.out.block j (HOK.out j hj)))
            have HY := Lib.hid (show Labs w1 ok v2 y from SlK.move labOk ho2 (fun j hj => HB1.out.block j (HOK.out j hj)))
            clear ho1 ho2
            go_wp2_with fail
            refine equal_k _ _ ok _ _ x y (fun j hj => Nat.lt_of_lt_of_le (HOK.out j hj) HB1.out.size) HX.out HY.out (S1.out _ _ E1.out) (S2.out _ _ E2.out) ?_
            intro w3 g3
            have G3 := Lib.hid (g3)
            clear g3
            by_cases he : x = y
            · rw [show decide (x = y) = true by simpa using he]
              have HE := Lib.hid (show f1 k = f2 k by rw [E1.out, E2.out, he])
              have HIT3 := Lib.hid (HIT1.out.move (w' := w3) (G3.out.block _ HIT1.out.lt.1) (G3.out.block _ HIT1.out.lt.2))
              have HB3 := Lib.hid (HB1.out.trans (G3.out.mono HB1.out.size))
              clear he
              go_wp2_with fail
              go_roundw
              case rel => exact ⟨n', HIT3.out.mono (fun j hj => hj.elim id (fun e => by rw [e]; exact HE.out)), HB3.out⟩
              case measure => rw [HIT3.out.left, hleft.out]; exact HLT.out
            · rw [show decide (x = y) = false by simpa using he]
              have hv := HR.out false w3 (HB1.out.trans (G3.out.mono HB1.out.size)) ⟨fun h => (by cases h), fun h => absurd (by have := h k; rw [E1.out, E2.out] at this; exact Option.some.inj this) he⟩
              clear he
              go_wp2_with fail
              exact hv
  · have hv := HR.out false w (Below.refl _ _) ⟨fun h => (by cases h), fun h => absurd h (eqf_len N1.out N2.out hl O1.out O2.out)⟩
    have hne : ¬ ((m1.length : Int) = (m2.length : Int)) := fun e => hl (by exact_mod_cast e)
    clear hl
    go_enter Tryz.func70, Tryz.ntmps70
    go_wp2_with fail
    exact hv
set_option maxRecDepth 100000 in
set_option maxHeartbeats 8000000 in
theorem eqfB_g (R : Ending → World → Prop) (w : World) (ok : Nat → Prop) (b1 b2 : Nat) (f1 f2 : Int → Option (List Lab × Int)) (h1 : FMap (Value.int .i64) w b1 (fun _ v l => ∃ u, v = .agg #[u, .int .i64 l.2] ∧ Labs w ok u l.1) f1) (h2 : FMap (Value.int .i64) w b2 (fun _ v l => ∃ u, v = .agg #[u, .int .i64 l.2] ∧ Labs w ok u l.1) f2) (hok : ∀ k, ok k → k < w.heap.size)
    (s1 : ∀ k l, f1 k = some l → l.1.length ≤ 1073741824) (s2 : ∀ k l, f2 k = some l → l.1.length ≤ 1073741824)
    (hR : ∀ q w', Below w.heap.size w w' → (q = true ↔ ∀ k, f1 k = f2 k) → R (.returned (.bool q)) w') :
    Calls Tryz.prog 72 #[.map (some b1), .map (some b2), .func (.func 73) #[] #[]] w R := by
  have HR := Lib.hid hR
  have HOK := Lib.hid hok
  have S1 := Lib.hid s1
  have S2 := Lib.hid s2
  clear hR hok s1 s2
  obtain ⟨m1, hm1, o1⟩ := h1
  obtain ⟨m2, hm2, o2⟩ := h2
  have O1 := Lib.hid o1
  have O2 := Lib.hid o2
  have N1 := Lib.hid hm1.nodup
  have N2 := Lib.hid hm2.nodup
  have l1 := hm1.len (P := Tryz.prog) (ty := 3) Tryz.underlying119
  have l2 := hm2.len (P := Tryz.prog) (ty := 3) Tryz.underlying119
  clear o1 o2
  by_cases hl : m1.length = m2.length
  · rw [← hl] at l2
    have HL := Lib.hid hl
    clear hl
    obtain ⟨o, l3, hit⟩ := hm1.range (P := Tryz.prog) Tryz.underlying119
    have HIT := Lib.hid hit
    have HM2 := Lib.hid hm2
    have HB := Lib.hid (Below.alloc (Below.refl _ _) (Nat.le_refl _) o : Below w.heap.size w (w.alloc o))
    clear hit hm2 hm1
    go_enter Tryz.func72, Tryz.ntmps72
    go_wp2_with fail
    clear l1 l2 l3
    go_loopw [18] (fun _ wr => ∃ n, ItAt (Value.int .i64) wr w.heap.size b1 m1 (fun k => f1 k = f2 k) n ∧ Below w.heap.size w wr) (fun _ wr => wr.rangeLeft b1 w.heap.size)
    case atStart => exact ⟨_, HIT.out.mono (fun _ h => h.elim), HB.out⟩
    case round =>
      obtain ⟨n, hit, hb⟩ := hrel
      have hleft := Lib.hid hit.left
      rcases hit.next (P := Tryz.prog) (fun x y h => by injection h) hit.ne 0 with ⟨hall, hrun⟩ | ⟨p, hp, w1, n', hlt, hrun, hit1, hM, hen⟩
      · have hv := HR.out true wr hb (by simpa using eqf_good N1.out N2.out HL.out O1.out O2.out hall)
        clear hall hit hb
        go_wp2_with fail
        exact hv
      · obtain ⟨k, v⟩ := p
        dsimp only at hrun hen hit1
        have hg1 : aget m1 k = some v := aget_of_mem N1.out hp
        have ho1 := O1.out k
        rw [hg1] at ho1
        have hb1 := Below.of_mod hb hM (Nat.le_refl _)
        have hm2 := HM2.out.move (w' := w1) (hb1.block _ HM2.out.lt)
        have HMW := Lib.hid hm2
        have HIT1 := Lib.hid hit1
        have HB1 := Lib.hid hb1
        have HLT := Lib.hid hlt
        clear hit hit1 hb hb1 hM hm2 hp hg1 hlt
        cases e1 : f1 k with
        | none => rw [e1] at ho1; exact ho1.elim
        | some x =>
          rw [e1] at ho1
          have E1 := Lib.hid e1
          clear e1
          obtain ⟨xl, xn⟩ := x
          obtain ⟨u1, rfl, hx⟩ := ho1
          obtain ⟨A1, c1, rfl, _, _⟩ := hx.form
          have HX := Lib.hid (show Labs w1 ok _ xl from SlK.move labOk hx (fun j hj => HB1.out.block j (HOK.out j hj)))
          clear hx
          have l4 := (HMW.out.move (w' := w1.alloc (.cells #[.slice A1 xl.length c1, .int .i64 xn] 139)) (Below.heap_alloc _ _ _ HMW.out.lt)).lookup intK Tryz.underlying119 (P := Tryz.prog) (z := .agg #[.slice none 0 0, .int .i64 0]) (by kernel_rfl) k true
          simp only [if_true] at l4
          cases e2 : f2 k with
          | none =>
            have hn := O2.out k
            rw [e2] at hn
            rw [hn.none_l] at l4
            simp only [Option.getD_none, Option.isSome_none] at l4
            have hv := HR.out false ((w1.alloc (.cells #[.slice A1 xl.length c1, .int .i64 xn] 139)).alloc (.cells #[.slice none 0 0, .int .i64 0] 139)) (Below.alloc (Below.alloc HB1.out HB1.out.size _) (Nat.le_trans HB1.out.size (by simp)) _) ⟨fun h => (by cases h), fun h => by have := h k; rw [E1.out, e2] at this; cases this⟩
            clear hn e2
            go_wp2_with fail
            exact hv
          | some y =>
            obtain ⟨v2, hv2, ho2⟩ : ∃ v2, aget m2 k = some v2 ∧ _ := by
              have hn := O2.out k
              rw [e2] at hn
              exact hn.some_l
            rw [hv2] at l4
            simp only [Option.getD_some, Option.isSome_some] at l4
            have E2 := Lib.hid e2
            clear e2 hv2
            obtain ⟨yl, yn⟩ := y
            obtain ⟨u2, rfl, hy⟩ := ho2
            obtain ⟨A2, c2, rfl, _, _⟩ := hy.form
            have HBB := Lib.hid (show Below w1.heap.size w1 ((w1.alloc (.cells #[.slice A1 xl.length c1, .int .i64 xn] 139)).alloc (.cells #[.slice A2 yl.length c2, .int .i64 yn] 139)) from Below.alloc (Below.alloc (Below.refl _ _) (Nat.le_refl _) _) (by simp) _)
            have HOK1 := Lib.hid (show ∀ j, ok j → j < w1.heap.size from fun j hj => Nat.lt_of_lt_of_le (HOK.out j hj) HB1.out.size)
            have HY := Lib.hid (SlK.move labOk (w' := w1) hy (fun j hj => HB1.out.block j (HOK.out j hj)))
            have HX2 := Lib.hid (HX.out.below labOk HBB.out HOK1.out)
            have HY2 := Lib.hid (HY.out.below labOk HBB.out HOK1.out)
            clear hy
            go_wp2_with fail
            refine clo_k _ _ ok _ _ xl yl xn yn (fun j hj => Nat.lt_of_lt_of_le (HOK1.out j hj) HBB.out.size) HX2.out HY2.out (S1.out _ _ E1.out) (S2.out _ _ E2.out) ?_
            intro w3 g3
            have G3 := Lib.hid (HBB.out.trans (g3.mono HBB.out.size))
            clear g3
            by_cases he : (xl, xn) = (yl, yn)
            · rw [show decide ((xl, xn) = (yl, yn)) = true by simpa using he]
              have HE := Lib.hid (show f1 k = f2 k by rw [E1.out, E2.out, he])
              have HIT3 := Lib.hid (HIT1.out.move (w' := w3) (G3.out.block _ HIT1.out.lt.1) (G3.out.block _ HIT1.out.lt.2))
              have HB3 := Lib.hid (HB1.out.trans (G3.out.mono HB1.out.size))
              clear he
              go_wp2_with fail
              go_roundw
              case rel => exact ⟨n', HIT3.out.mono (fun j hj => hj.elim id (fun e => by rw [e]; exact HE.out)), HB3.out⟩
              case measure => rw [HIT3.out.left, hleft.out]; exact HLT.out
            · rw [show decide ((xl, xn) = (yl, yn)) = false by simpa using he]
              have hv := HR.out false w3 (HB1.out.trans (G3.out.mono HB1.out.size)) ⟨fun h => (by cases h), fun h => absurd (by have := h k; rw [E1.out, E2.out] at this; exact Option.some.inj this) he⟩
              clear he
              go_wp2_with fail
              exact hv
  · have hv := HR.out false w (Below.refl _ _) ⟨fun h => (by cases h), fun h => absurd h (eqf_len N1.out N2.out hl O1.out O2.out)⟩
    have hne : ¬ ((m1.length : Int) = (m2.length : Int)) := fun e => hl (by exact_mod_cast e)
    clear hl
    go_enter Tryz.func72, Tryz.ntmps72
    go_wp2_with fail
    exact hv
end Go.Proofs.YtmenipaibjifiaaGreatDoor
