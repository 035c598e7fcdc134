/-
  maps.EqualFunc of two empty maps; domain.Same of two empty ones.
-/
import Derived.Test.YtmenipaibjifiaaGreatDoorA22
import Derived.Maps.Range
import Derived.Maps.RangeRun
set_option linter.unusedVariables false
set_option linter.unusedSimpArgs false
namespace Go.Proofs.YtmenipaibjifiaaGreatDoor
open Go.RowKit Go.BigFrame

theorem map_nil_at {κ : Type} [DecidableEq κ] {enc : κ → Value} {w : World} {b : Nat} (h : MapAt enc w b []) : ∃ c, w.heap[b]? = some (.map #[] c) := by
  obtain ⟨es, c, h1, h2, _⟩ := h
  have : es = #[] := by
    have := congrArg List.length h2
    simp at this
    exact this
  exact ⟨c, by rw [h1, this]⟩
theorem map_len0 {P : Program} {w : World} {b : Nat} {es : Array MapEntry} {c : Nat} (h : w.heap[b]? = some (.map es c)) {t kt e ty : TypeId} (ht : P.underlying t = some (.map kt e)) :
    (Builtin.len_ #[t] ty #[.map (some b)]).run P w = .ok (.int .i64 (es.size : Int)) w := by
  unfold Builtin.len_
  simp [run_underlying ht, MapKept.run_getObj_map h, goInt]
theorem map_range {P : Program} {w : World} {b : Nat} {es : Array MapEntry} {c : Nat} (h : w.heap[b]? = some (.map es c)) {t kt e : TypeId} (ht : P.underlying t = some (.map kt e)) :
    (Instr.range t (.map (some b))).run P w = .ok (.pointer (some ⟨w.heap.size, 0, none⟩)) (w.alloc (.mapIter (some b) c #[] c)) := by
  unfold Instr.range
  simp [run_underlying ht, MapKept.run_getObj_map h, run_newObj_alloc]
theorem map_next_empty {P : Program} {w : World} {b r c c0 : Nat} (hr : w.heap[r]? = some (.mapIter (some b) c #[] c0)) (hb : w.heap[b]? = some (.map #[] c)) (hc : c ≤ c0) (ty : TypeId) :
    (Instr.next (.pointer (some ⟨r, 0, none⟩)) false ty).run P w = .ok (.tuple #[.bool false]) w := by
  rcases run_next_at (P := P) w ty r b c c0 #[] #[] c hr hb (fun x hx => by simp at hx) hc with ⟨_, h⟩ | ⟨e, he, _⟩
  · exact h
  · simp [leftOf] at he
set_option maxRecDepth 100000 in
set_option maxHeartbeats 4000000 in
theorem eqfA_k (R : Ending → World → Prop) (w : World) (b1 b2 c1 c2 : Nat) (fv : Value) (h1 : w.heap[b1]? = some (.map #[] c1)) (h2 : w.heap[b2]? = some (.map #[] c2)) (hR : ∀ w', Below w.heap.size w w' → R (.returned (.bool true)) w') :
    Calls Tryz.prog 70 #[.map (some b1), .map (some b2), fv] w R := by
  have HR := Lib.hid hR
  clear hR
  have l1 := map_len0 (P := Tryz.prog) (ty := 3) h1 Tryz.underlying118
  have l2 := map_len0 (P := Tryz.prog) (ty := 3) h2 Tryz.underlying118
  have l3 := map_range (P := Tryz.prog) h1 Tryz.underlying118
  simp only [List.size_toArray, List.length_nil, Int.natCast_zero] at l1 l2
  have i1 : (w.alloc (.mapIter (some b1) c1 #[] c1)).heap[w.heap.size]? = some (.mapIter (some b1) c1 #[] c1) := heap_alloc_new _ _
  have i2 := heap_keep h1 (.mapIter (some b1) c1 #[] c1)
  have l4 := map_next_empty (P := Tryz.prog) i1 i2 (Nat.le_refl _) 0
  have hv := HR.out _ (Below.alloc (Below.refl _ _) (Nat.le_refl _) (.mapIter (some b1) c1 #[] c1))
  clear i1 i2 h1 h2
  go_enter Tryz.func70, Tryz.ntmps70
  go_wp2_with fail
  go_loop [18, 19] (fun _ _ => True) (fun _ _ => 0)
  case atStart => trivial
  case round =>
    go_wp2_with fail
    exact hv
set_option maxRecDepth 100000 in
set_option maxHeartbeats 4000000 in
theorem eqfB_k (R : Ending → World → Prop) (w : World) (b1 b2 c1 c2 : Nat) (fv : Value) (h1 : w.heap[b1]? = some (.map #[] c1)) (h2 : w.heap[b2]? = some (.map #[] c2)) (hR : ∀ w', Below w.heap.size w w' → R (.returned (.bool true)) w') :
    Calls Tryz.prog 72 #[.map (some b1), .map (some b2), fv] w R := by
  have HR := Lib.hid hR
  clear hR
  have l1 := map_len0 (P := Tryz.prog) (ty := 3) h1 Tryz.underlying119
  have l2 := map_len0 (P := Tryz.prog) (ty := 3) h2 Tryz.underlying119
  have l3 := map_range (P := Tryz.prog) h1 Tryz.underlying119
  simp only [List.size_toArray, List.length_nil, Int.natCast_zero] at l1 l2
  have i1 : (w.alloc (.mapIter (some b1) c1 #[] c1)).heap[w.heap.size]? = some (.mapIter (some b1) c1 #[] c1) := heap_alloc_new _ _
  have i2 := heap_keep h1 (.mapIter (some b1) c1 #[] c1)
  have l4 := map_next_empty (P := Tryz.prog) i1 i2 (Nat.le_refl _) 0
  have hv := HR.out _ (Below.alloc (Below.refl _ _) (Nat.le_refl _) (.mapIter (some b1) c1 #[] c1))
  clear i1 i2 h1 h2
  go_enter Tryz.func72, Tryz.ntmps72
  go_wp2_with fail
  go_loop [18, 19] (fun _ _ => True) (fun _ _ => 0)
  case atStart => trivial
  case round =>
    go_wp2_with fail
    exact hv
end Go.Proofs.YtmenipaibjifiaaGreatDoor
