/-
  cluster: New; Slots, PodSlots of a new one and of nil.
-/
import Derived.Test.YtmenipaibjifiaaGreatDoorA22
import Derived.Lib.SliceRun
set_option linter.unusedVariables false
set_option linter.unusedSimpArgs false
namespace Go.Proofs.YtmenipaibjifiaaGreatDoor
open Go.RowKit Go.BigFrame

set_option maxRecDepth 100000 in
set_option maxHeartbeats 4000000 in
theorem slotsNewA_k (R : Ending → World → Prop) (w : World) (hR : ∀ b t w', Below w.heap.size w w' → w'.heap[t]? = some (.cells #[.int .i64 512, .map (some b), .slice none 0 0, .int .i64 0] 324) → R (.returned (.tuple #[.pointer (some ⟨t, 0, none⟩), .int .i64 0])) w') :
    Calls Tryz.prog 129 #[.int .i64 512] w R := by
  have HR := Lib.hid hR
  clear hR
  have hmm := @run_makeMap Tryz.prog
  go_enter Tryz.func129, Tryz.ntmps129
  go_wp2_with fail
  refine HR.out w.heap.size (w.heap.size + 1) _ (Below.alloc (Below.alloc (Below.refl _ _) (Nat.le_refl _) _) (by simp) _) ?_
  have := heap_alloc_new (w.alloc (.map #[] 0)) (.cells #[.int .i64 512, .map (some w.heap.size), .slice none 0 0, .int .i64 0] 324)
  rwa [World.size_alloc] at this
theorem slotsNilC_k (R : Ending → World → Prop) (w : World) (hR : R (.returned (.func (.func 131) #[] #[])) w) : Calls Tryz.prog 46 #[.pointer none] w R := by
  go_enter Tryz.func46, Tryz.ntmps46
  go_wp2_with fail
  exact hR
theorem podSlotsNilC_k (R : Ending → World → Prop) (w : World) (hR : R (.returned (.func (.func 133) #[] #[])) w) : Calls Tryz.prog 47 #[.pointer none] w R := by
  go_enter Tryz.func47, Tryz.ntmps47
  go_wp2_with fail
  exact hR
set_option maxRecDepth 100000 in
set_option maxHeartbeats 4000000 in
theorem slotsNewB_k (R : Ending → World → Prop) (w : World) (hR : ∀ b t w', Below w.heap.size w w' → w'.heap[t]? = some (.cells #[.int .i64 2048, .map (some b), .slice none 0 0, .int .i64 0] 327) → R (.returned (.tuple #[.pointer (some ⟨t, 0, none⟩), .int .i64 0])) w') :
    Calls Tryz.prog 130 #[.int .i64 2048] w R := by
  have HR := Lib.hid hR
  clear hR
  have hmm := @run_makeMap Tryz.prog
  go_enter Tryz.func130, Tryz.ntmps130
  go_wp2_with fail
  refine HR.out w.heap.size (w.heap.size + 1) _ (Below.alloc (Below.alloc (Below.refl _ _) (Nat.le_refl _) _) (by simp) _) ?_
  have := heap_alloc_new (w.alloc (.map #[] 0)) (.cells #[.int .i64 2048, .map (some w.heap.size), .slice none 0 0, .int .i64 0] 327)
  rwa [World.size_alloc] at this
/-- A new cluster: its two tables have no rows. -/
def CluNew (w : World) (c : Nat) : Prop := ∃ b1 b2 t1 t2 m1 m2, w.heap[c]? = some (.cells #[.map (some b1), .map (some b2), .pointer (some ⟨t1, 0, none⟩), .pointer (some ⟨t2, 0, none⟩)] 252) ∧
  w.heap[t1]? = some (.cells #[.int .i64 512, .map (some m1), .slice none 0 0, .int .i64 0] 324) ∧ w.heap[t2]? = some (.cells #[.int .i64 2048, .map (some m2), .slice none 0 0, .int .i64 0] 327)
theorem CluNew.below {w w' : World} {c : Nat} (h : CluNew w c) (hb : Below w.heap.size w w') : CluNew w' c := by
  obtain ⟨b1, b2, t1, t2, m1, m2, h1, h2, h3⟩ := h
  have kp : ∀ {k : Nat} {o : Obj}, w.heap[k]? = some o → w'.heap[k]? = some o := fun {k o} h => (hb.block k (Array.getElem?_eq_some_iff.1 h).1).trans h
  exact ⟨b1, b2, t1, t2, m1, m2, kp h1, kp h2, kp h3⟩
set_option maxRecDepth 100000 in
set_option maxHeartbeats 4000000 in
theorem clusterNew_k (R : Ending → World → Prop) (w : World) (hR : ∀ c w', Below w.heap.size w w' → CluNew w' c → R (.returned (.pointer (some ⟨c, 0, none⟩))) w') :
    Calls Tryz.prog 44 #[] w R := by
  have HR := Lib.hid hR
  clear hR
  have hmm := @run_makeMap Tryz.prog
  go_enter Tryz.func44, Tryz.ntmps44
  go_wp2_with fail
  refine slotsNewA_k _ _ ?_
  intro m1 t1 w1 g1 h1
  have HG1 := Lib.hid g1
  have HT1 := Lib.hid h1
  clear g1 h1
  go_wp2_with fail
  refine slotsNewB_k _ _ ?_
  intro m2 t2 w2 g2 h2
  have HG2 := Lib.hid g2
  have HT2 := Lib.hid h2
  clear g2 h2
  go_wp2_with fail
  have hb := HG1.out.trans (HG2.out.mono HG1.out.size)
  have k1 := (HG2.out.block t1 (Array.getElem?_eq_some_iff.1 HT1.out).1).trans HT1.out
  refine HR.out (w2.heap.size + 2) _ (Below.alloc (Below.alloc (Below.alloc hb hb.size _) (by have := hb.size; simp; omega) _) (by have := hb.size; simp; omega) _) ⟨w2.heap.size, w2.heap.size + 1, t1, t2, m1, m2, ?_, heap_keep (heap_keep (heap_keep k1 _) _) _, heap_keep (heap_keep (heap_keep HT2.out _) _) _⟩
  have := heap_alloc_new ((w2.alloc (.map #[] 0)).alloc (.map #[] 0)) (.cells #[.map (some w2.heap.size), .map (some (w2.heap.size + 1)), .pointer (some ⟨t1, 0, none⟩), .pointer (some ⟨t2, 0, none⟩)] 252)
  rw [World.size_alloc, World.size_alloc] at this
  exact this
end Go.Proofs.YtmenipaibjifiaaGreatDoor
