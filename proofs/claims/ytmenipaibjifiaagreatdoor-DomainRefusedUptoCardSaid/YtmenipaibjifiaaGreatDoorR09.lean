/-
  domain: count. No condition beyond those of the theorem.
-/
import Derived.Test.YtmenipaibjifiaaGreatDoorR07
import Derived.Test.YtmenipaibjifiaaGreatDoorR04
import Derived.BigRegion
set_option linter.unusedVariables false
set_option linter.unusedSimpArgs false
namespace Go.Proofs.YtmenipaibjifiaaGreatDoor
open Go.RowKit

/-- the struct Domains at a block: its six maps -/
def DomCells (n g o a v c : Nat) : Array Value := #[.map (some n), .map (some g), .map (some o), .map (some a), .map (some v), .map (some c)]

theorem count_any (R : Ending → World → Prop) (w : World) (d n g o a v c : Nat) (fz : Nat × Nat) (m : List (((ByteArray × ByteArray) × ByteArray × ByteArray) × Value)) (t : (ByteArray × ByteArray) × ByteArray × ByteArray) (x q : Int)
    (hd : w.heap[d]? = some (.cells (DomCells n g o a v c) 125 fz)) (hm : MapAt tagV w c m) (hq : (aget m t).getD (.int .i64 0) = .int .i64 q) (hx : -9223372036854775808 ≤ q + x ∧ q + x ≤ 9223372036854775807)
    (hR : ∀ w', MapAt tagV w' c (if q + x = 0 then adel m t else aset m t (.int .i64 (q + x))) → Mod (fun k => k = c) w w' → R (.returned (.tuple #[])) w') :
    Calls Tryz.prog 144 #[.pointer (some ⟨d, 0, none⟩), .agg #[.string t.1.1, .string t.1.2, .string t.2.1, .string t.2.2], .int .i64 x] w R := by
  have hdl : d < w.heap.size := (Array.getElem?_eq_some_iff.1 hd).1
  go_enter Tryz.func144, Tryz.ntmps144
  go_wp2_with fail
  have hcell := cell_old (cell_at hd (i := 5) (x := .map (some c)) rfl) (.cells #[.string t.1.1, .string t.1.2, .string t.2.1, .string t.2.2] 255)
  have n0 := cell_new (w := w) (cs := #[.string t.1.1, .string t.1.2, .string t.2.1, .string t.2.2]) (T := 255) (fz := (0, 0)) (i := 0) rfl
  have n1 := cell_new (w := w) (cs := #[.string t.1.1, .string t.1.2, .string t.2.1, .string t.2.2]) (T := 255) (fz := (0, 0)) (i := 1) rfl
  have n2 := cell_new (w := w) (cs := #[.string t.1.1, .string t.1.2, .string t.2.1, .string t.2.2]) (T := 255) (fz := (0, 0)) (i := 2) rfl
  have n3 := cell_new (w := w) (cs := #[.string t.1.1, .string t.1.2, .string t.2.1, .string t.2.2]) (T := 255) (fz := (0, 0)) (i := 3) rfl
  have hm0 : MapAt tagV (w.alloc (.cells #[.string t.1.1, .string t.1.2, .string t.2.1, .string t.2.2] 255)) c m := hm.mod ((Mod.refl Non w).alloc _) (fun h => h)
  have hB : Mod Non w (w.alloc (.cells #[.string t.1.1, .string t.1.2, .string t.2.1, .string t.2.2] 255)) := (Mod.refl Non w).alloc _
  generalize w.alloc (.cells #[.string t.1.1, .string t.1.2, .string t.2.1, .string t.2.2] 255) = W0 at *
  obtain ⟨ob, s, e1, e2, e3⟩ := hm0.entry tagK Tryz.underlying123 (z := .int .i64 0) (fun W => by kernel_rfl) t
  simp only [hq] at e1 e2
  have l1 := (hm0.move (w' := W0.drew) rfl).lookup tagK Tryz.underlying123 (z := .int .i64 0) (by kernel_rfl) t false
  have l2 := e1 W0.drew rfl
  have l3 := e2 (putObj W0.drew c ob) (putObj_same (by have := hm0.lt; simpa using this) _)
  obtain ⟨o2, l4, hm2⟩ := e3 (putObj W0.drew c ob) (.int .i64 (q + x)) (putObj_same (by have := hm0.lt; simpa using this) _)
  simp only [hq, tagV, Bool.false_eq_true, if_false] at l1 l2 l3
  have hp : Mod (fun k => k = c) W0 (putObj W0.drew c ob) := Mod.put (S := fun k => k = c) (Mod.refl _ W0).drew (fun _ => rfl) ob
  clear e1 e2 e3
  have hne := hm0.ne_cell hcell
  have hne2 := hm0.ne_cell n0
  generalize hW1 : putObj W0.drew c ob = W1 at *
  have hM2 : Mod (fun k => k = c) W0 (putObj W1 c o2) := hp.put (fun _ => rfl) o2
  generalize putObj W1 c o2 = W2 at *
  clear hW1
  have l5 := (hm2.move (w' := W2.drew) rfl).lookup tagK Tryz.underlying123 (z := .int .i64 0) (by kernel_rfl) t false
  rw [aget_aset] at l5
  simp only [tagV, if_true, Option.getD_some, Bool.false_eq_true, if_false] at l5
  have hcell2 := hM2.cell' hcell hne
  have m0 := hM2.cell' n0 hne2
  have m1 := hM2.cell' n1 hne2
  have m2 := hM2.cell' n2 hne2
  have m3 := hM2.cell' n3 hne2
  go_region
  have hT : ∀ Z : World, Mod (fun k => k = c) W2 Z → Mod (fun k => k = c) w Z := fun Z h => (hB.mono (fun _ _ h => h.elim)).trans (hM2.trans h (fun _ _ h => h)) (fun _ _ h => h)
  have hcl : c < W2.heap.size := hm2.lt
  obtain ⟨o3, l6, hm3⟩ := (hm2.move (w' := W2.drew.drew) rfl).delete (ty := 0) tagK Tryz.underlying123 t
  simp only [tagV] at l6
  by_cases hz : q + x = 0
  · have Hz := Lib.hid hz
    have hzb : (q + x == 0) = true := by simpa using hz
    clear hz
    go_wp2
    go_region
    go_wp2
    go_region
    go_end0
    refine hR _ ?_ (hT _ (Mod.put (S := fun k => k = c) (Mod.refl _ W2).drew.drew (fun _ => rfl) o3))
    rw [if_pos Hz.out, ← adel_aset m t (.int .i64 (q + x))]
    exact hm3
  · have Hz := Lib.hid hz
    have hzb : (q + x == 0) = false := by simpa using hz
    clear hz
    go_wp2
    go_region
    go_wp2
    go_end0
    refine hR _ ?_ (hT _ (Mod.refl _ W2).drew)
    rw [if_neg Hz.out]
    exact hm2.move rfl
end Go.Proofs.YtmenipaibjifiaaGreatDoor
