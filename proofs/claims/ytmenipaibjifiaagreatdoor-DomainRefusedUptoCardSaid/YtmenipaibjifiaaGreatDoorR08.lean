/-
  bitset: what a set is in memory; wordCount, blank, New, Size.
-/
import Derived.Test.YtmenipaibjifiaaGreatDoorR03
import Derived.Test.YtmenipaibjifiaaGreatDoorProg
import Derived.KernelRfl
import Derived.OwnWalk
import Derived.Deep.OwnRows
set_option linter.unusedVariables false
set_option linter.unusedSimpArgs false
namespace Go.Proofs.YtmenipaibjifiaaGreatDoor
open Go.RowKit Go.BigFrame

/-- The set at p: universe n, words ws, in the blocks s and b. -/
def SetIn (w : World) (s b : Nat) (n : Nat) (ws : List Nat) : Prop :=
  s ≠ b ∧ w.heap[s]? = some (.cells #[.int .i64 n, .slice (some ⟨b, 0, none⟩) ws.length ws.length] 269) ∧ w.heap[b]? = some (.cells (ws.map fun (x : Nat) => Value.int .u64 (x : Int)).toArray 163) ∧
  ws.length = (n + 63) / 64 ∧ n ≤ 65536 ∧ ∀ x ∈ ws, x < 18446744073709551616
theorem SetIn.move {w w' : World} {s b n : Nat} {ws : List Nat} (h : SetIn w s b n ws) (h1 : w'.heap[s]? = w.heap[s]?) (h2 : w'.heap[b]? = w.heap[b]?) : SetIn w' s b n ws := by
  obtain ⟨a1, a2, a3, a4⟩ := h
  exact ⟨a1, h1.trans a2, h2.trans a3, a4⟩

theorem wordCount_k (R : Ending → World → Prop) (w : World) (n : Nat) (hn : n ≤ 65536) (hR : R (.returned (.int .i64 ((n + 63) / 64 : Nat))) w) : Calls Tryz.prog 157 #[.int .i64 n] w R := by
  go_enter Tryz.func157, Tryz.ntmps157
  go_wp2_with fail
  rw [show ((n + 63) / 64 : Nat) = (((n + 63) / 64 : Nat) : Int) from rfl] at hR
  simpa using hR

theorem infoU64 : (Tryz.prog.info? 163).map (fun i => (i.zero, i.size, i.bytes)) = some (some (.int .u64 0), 1, 8) := by kernel_rfl
set_option maxRecDepth 100000 in
set_option maxHeartbeats 2000000 in
theorem blank_k (R : Ending → World → Prop) (w : World) (n : Nat) (hn : n ≤ 65536)
    (hR : ∀ s b w', Below w.heap.size w w' → w.heap.size ≤ s → w.heap.size ≤ b → SetIn w' s b n (List.replicate ((n + 63) / 64) 0) → R (.returned (.pointer (some ⟨s, 0, none⟩))) w') : Calls Tryz.prog 164 #[.int .i64 n] w R := by
  obtain ⟨i0, hi, hz0, hz1, hz2⟩ := info_parts infoU64
  have HR := Lib.hid hR
  clear hR
  go_enter Tryz.func164, Tryz.ntmps164
  go_wp2_with (first | (go_at_call 157; refine wordCount_k _ _ n hn ?_) | (at_make; refine wpList_make_row _ rfl _ _ 267 rfl 163 i0 (.int .u64 0) Tryz.underlying267 hi hz0 hz1 rfl _ _ ((n + 63) / 64) rfl rfl (by rw [hz2]; omega) (by omega) ?_))
  refine HR.out (w.heap.size + 1) w.heap.size _ (Below.alloc (Below.alloc (Below.refl _ _) (Nat.le_refl _) _) (by simp) _) (by omega) (Nat.le_refl _) ⟨by omega, ?_, ?_, by simp, hn, by simp⟩
  · rw [List.length_replicate]
    rw [← World.size_alloc (w := w) (o := .cells (madeCells #[.int .u64 0] ((n + 63) / 64)) 163)]
    exact heap_alloc_new _ _
  · refine (Below.heap_alloc _ _ _ (by simp)).trans ((heap_alloc_new w _).trans ?_)
    congr 2
    apply Array.ext
    · simp [madeCells]
    · intro i h1 h2
      simp [madeCells, Nat.mod_one]

set_option maxRecDepth 100000 in
theorem bnew_k (R : Ending → World → Prop) (w : World) (n : Nat) (hn : n ≤ 65536)
    (hR : ∀ s b w', Below w.heap.size w w' → w.heap.size ≤ s → w.heap.size ≤ b → SetIn w' s b n (List.replicate ((n + 63) / 64) 0) → R (.returned (.tuple #[.pointer (some ⟨s, 0, none⟩), .int .i64 0])) w') : Calls Tryz.prog 87 #[.int .i64 n] w R := by
  have h2 : decide (65536 < n) = false := by simp; omega
  have h3 : decide ((65536 : Int) < (n : Int)) = false := by simp; omega
  have h4 : decide ((n : Int) < 0) = false := by simp
  go_enter Tryz.func87, Tryz.ntmps87
  go_wp2_with fail
  refine blank_k _ _ n hn ?_
  intro s b w1 hB h5 h6 hS
  go_wp2_with fail
  exact hR s b w1 hB h5 h6 hS

set_option maxRecDepth 100000 in
theorem size_k (R : Ending → World → Prop) (w : World) (s b n : Nat) (ws : List Nat) (hS : SetIn w s b n ws) (hR : R (.returned (.int .i64 n)) w) : Calls Tryz.prog 86 #[.pointer (some ⟨s, 0, none⟩)] w R := by
  have c0 : w.cell? ⟨s, 0, none⟩ = some (.int .i64 n) := cell_at hS.2.1 rfl
  go_enter Tryz.func86, Tryz.ntmps86
  go_wp2_with fail
  try exact hR
theorem sizeNil_k (R : Ending → World → Prop) (w : World) (hR : R (.returned (.int .i64 0)) w) : Calls Tryz.prog 86 #[.pointer none] w R := by
  go_enter Tryz.func86, Tryz.ntmps86
  go_wp2_with fail
  try exact hR
end Go.Proofs.YtmenipaibjifiaaGreatDoor
