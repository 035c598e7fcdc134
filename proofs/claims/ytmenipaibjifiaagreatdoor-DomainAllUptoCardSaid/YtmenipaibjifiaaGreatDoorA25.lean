/-
  domain.Same of two empty ones.
-/
import Derived.Test.YtmenipaibjifiaaGreatDoorA24
import Derived.Deep.RegionHeld3
import Derived.Test.YtmenipaibjifiaaGreatDoorA22
set_option linter.unusedVariables false
set_option linter.unusedSimpArgs false
namespace Go.Proofs.YtmenipaibjifiaaGreatDoor
open Go.RowKit Go.BigFrame

theorem FMap.nil_at {κ α : Type} [DecidableEq κ] {enc : κ → Value} {w : World} {b : Nat} {rel : κ → Value → α → Prop} {f : κ → Option α} (h : FMap enc w b rel f) (hf : ∀ k, f k = none) : ∃ c, w.heap[b]? = some (.map #[] c) := by
  obtain ⟨m, hm, hr⟩ := h
  have : m = [] := by
    cases m with
    | nil => rfl
    | cons p r =>
      have := hr p.1
      rw [hf] at this
      have := this.none_l
      simp [aget] at this
  rw [this] at hm
  exact map_nil_at hm
set_option maxRecDepth 100000 in
set_option maxHeartbeats 4000000 in
theorem sameE_k (R : Ending → World → Prop) (w : World) (ha hb : Hdr) (owna ownb : Own') (S T : St) (DA : DomAt w ha owna S) (DB : DomAt w hb ownb T) (h1 : ∀ k, S.nodes k = none) (h2 : ∀ k, S.guests k = none) (h3 : ∀ k, T.nodes k = none) (h4 : ∀ k, T.guests k = none)
    (hR : ∀ w', Below w.heap.size w w' → R (.returned (.bool true)) w') :
    Calls Tryz.prog 17 #[.pointer (some ⟨ha.d, 0, none⟩), .pointer (some ⟨hb.d, 0, none⟩)] w R := by
  have HR := Lib.hid hR
  clear hR
  obtain ⟨c1, e1⟩ := DA.fn.nil_at h1
  obtain ⟨c2, e2⟩ := DB.fn.nil_at h3
  obtain ⟨c3, e3⟩ := DA.fg.nil_at h2
  obtain ⟨c4, e4⟩ := DB.fg.nil_at h4
  have x1 : w.cell? ⟨ha.d, 0, none⟩ = some (.map (some ha.n)) := cell_at DA.hd rfl
  have x2 : w.cell? ⟨hb.d, 0, none⟩ = some (.map (some hb.n)) := cell_at DB.hd rfl
  have x3 : w.cell? ⟨ha.d, 1, none⟩ = some (.map (some ha.g)) := cell_at DA.hd rfl
  have x4 : w.cell? ⟨hb.d, 1, none⟩ = some (.map (some hb.g)) := cell_at DB.hd rfl
  have HK := Lib.hid (show ∀ w', Below w.heap.size w w' → Below w.heap.size w w' ∧ w'.cell? ⟨ha.d, 0, none⟩ = some (.map (some ha.n)) ∧ w'.cell? ⟨hb.d, 0, none⟩ = some (.map (some hb.n)) ∧ w'.cell? ⟨ha.d, 1, none⟩ = some (.map (some ha.g)) ∧ w'.cell? ⟨hb.d, 1, none⟩ = some (.map (some hb.g)) from
    fun w' hw => ⟨hw, (Mod.of_below hw).cell' x1 (fun h => h), (Mod.of_below hw).cell' x2 (fun h => h), (Mod.of_below hw).cell' x3 (fun h => h), (Mod.of_below hw).cell' x4 (fun h => h)⟩)
  have E1 := Lib.hid e1
  have E2 := Lib.hid e2
  have E3 := Lib.hid e3
  have E4 := Lib.hid e4
  have l3 := (Array.getElem?_eq_some_iff.1 e3).1
  have l4 := (Array.getElem?_eq_some_iff.1 e4).1
  clear e1 e2 e3 e4 DA DB h1 h2 h3 h4
  go_enter Tryz.func17, Tryz.ntmps17
  go_wp2_with fail
  go_region_held3 (fun w' => Below w.heap.size w w' ∧ w'.cell? ⟨ha.d, 0, none⟩ = some (.map (some ha.n)) ∧ w'.cell? ⟨hb.d, 0, none⟩ = some (.map (some hb.n)) ∧ w'.cell? ⟨ha.d, 1, none⟩ = some (.map (some ha.g)) ∧ w'.cell? ⟨hb.d, 1, none⟩ = some (.map (some hb.g)))
    (first
    | exact HK.out _ (Below.refl _ w).drew
    | exact HK.out _ y2
    | exact HK.out _ y1)
    (first
    | (go_at_call 70; refine eqfA_k _ _ ha.n hb.n c1 c2 _ E1.out E2.out ?_; intro w2 g1
       have y1 : Below w.heap.size w w2 := ⟨g1.os, g1.tape, g1.output, g1.size, g1.block⟩)
    | (go_at_call 72; refine eqfB_k _ _ ha.g hb.g c3 c4 _ ((y1.block _ l3).trans E3.out) ((y1.block _ l4).trans E4.out) ?_; intro w3 g2
       have y2 : Below w.heap.size w w3 := y1.trans (g2.mono y1.size)))
  all_goals (
    go_wp2_with fail
    exact HR.out _ y2)
end Go.Proofs.YtmenipaibjifiaaGreatDoor
