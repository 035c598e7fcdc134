/-
domain: New, bitmap, list, count over the whole state.
domain: enter.
The turns of the state's maps in memory, with new blocks. Plain lemmas.
berthlaw09: Marks, members.
cluster: New; Slots, PodSlots of a new one and of nil.
-/
import Derived.Test.YtmenipaibjifiaaGreatDoorR14
import Derived.Test.YtmenipaibjifiaaGreatDoorR11
import Derived.Test.YtmenipaibjifiaaGreatDoorR25
import Derived.Carry
import Derived.BigRegion
import Derived.Deep.RegionWith
import Derived.BigQuiet
import Derived.Lib.SliceRun
set_option linter.unusedVariables false
set_option linter.unusedSimpArgs false
namespace Go.Proofs.YtmenipaibjifiaaGreatDoor
open Go.RowKit Go.BigFrame

theorem heap_keep {w : World} {b : Nat} {o : Obj} (h : w.heap[b]? = some o) (x : Obj) : (w.alloc x).heap[b]? = some o := (Below.heap_alloc w x b (Array.getElem?_eq_some_iff.1 h).1).trans h
theorem alloc_heap' (w : World) (o : Obj) : (w.alloc o).heap = w.heap.push o := rfl
theorem heap_size_new (w : World) (o : Obj) : (w.alloc o).heap[w.heap.size]? = some o := heap_alloc_new w o
theorem mapEmpty {κ : Type} [DecidableEq κ] {enc : κ → Value} {w : World} {b : Nat} (h : w.heap[b]? = some (.map #[] 0)) : MapAt enc w b [] := ⟨#[], 0, h, rfl, by simp, by simp, by simp⟩
set_option maxRecDepth 100000 in
set_option maxHeartbeats 4000000 in
theorem dnew_k (R : Ending → World → Prop) (w : World) (hR : ∀ h own w', Below w.heap.size w w' → DomAt w' h own St.empty → (∀ k, k < w.heap.size → own k = none) → w.heap.size ≤ h.d → R (.returned (.pointer (some ⟨h.d, 0, none⟩))) w') :
    Calls Tryz.prog 10 #[] w R := by
  have HR := Lib.hid hR
  clear hR
  have hmm := @run_makeMap Tryz.prog
  go_enter Tryz.func10, Tryz.ntmps10
  go_wp2_with fail
  let s := w.heap.size
  let own : Own' := fun k => if k = w.heap.size + 6 then some .imm else if k = w.heap.size then some .nodes else if k = w.heap.size + 1 then some .guests else if k = w.heap.size + 2 then some .ons else if k = w.heap.size + 3 then some .areas
    else if k = w.heap.size + 4 then some .values else if k = w.heap.size + 5 then some .counts else none
  refine HR.out ⟨w.heap.size + 6, w.heap.size, w.heap.size + 1, w.heap.size + 2, w.heap.size + 3, w.heap.size + 4, w.heap.size + 5⟩ own _ ?_ ⟨?_, ?_, ?_, ?_, ?_, ?_, ?_, ?_, ?_, ?_, ?_, ?_, ?_, ?_, ?_⟩ ?_ ?_
  · exact Below.alloc (Below.alloc (Below.alloc (Below.alloc (Below.alloc (Below.alloc (Below.alloc (Below.refl _ _) (Nat.le_refl _) _) (by simp) _) (by simp; omega) _) (by simp; omega) _) (by simp; omega) _) (by simp; omega) _) (by simp; omega) _
  · simp only [alloc_heap', Array.getElem?_push, Array.size_push]
    repeat (first | rw [if_pos trivial] | rw [if_pos (by omega)] | rw [if_neg (by omega)])
    rfl
  · intro k hk
    simp at hk
    simp only [own]
    repeat rw [if_neg (by omega)]
  · simp [own]
  · simp [own]
  · simp [own]
  · simp [own]
  · simp [own]
  · simp [own]
  · simp [own]
  · exact FMap.empty (mapEmpty (by simp only [alloc_heap', Array.getElem?_push, Array.size_push]; repeat (first | rw [if_pos trivial] | rw [if_pos (by omega)] | rw [if_neg (by omega)])))
  · exact FMap.empty (mapEmpty (by simp only [alloc_heap', Array.getElem?_push, Array.size_push]; repeat (first | rw [if_pos trivial] | rw [if_pos (by omega)] | rw [if_neg (by omega)])))
  · exact FMap.empty (mapEmpty (by simp only [alloc_heap', Array.getElem?_push, Array.size_push]; repeat (first | rw [if_pos trivial] | rw [if_pos (by omega)] | rw [if_neg (by omega)])))
  · exact FMap.empty (mapEmpty (by simp only [alloc_heap', Array.getElem?_push, Array.size_push]; repeat (first | rw [if_pos trivial] | rw [if_pos (by omega)] | rw [if_neg (by omega)])))
  · exact FMap.empty (mapEmpty (by simp only [alloc_heap', Array.getElem?_push, Array.size_push]; repeat (first | rw [if_pos trivial] | rw [if_pos (by omega)] | rw [if_neg (by omega)])))
  · exact FMap.empty (mapEmpty (by simp only [alloc_heap', Array.getElem?_push, Array.size_push]; repeat (first | rw [if_pos trivial] | rw [if_pos (by omega)] | rw [if_neg (by omega)])))
  · intro k hk
    simp only [own]
    repeat rw [if_neg (by omega)]
  · show w.heap.size ≤ w.heap.size + 6
    omega

theorem guest_list (u : Value) (nd : Int) (W : World) : (Instr.field 139 (.agg #[u, .int .i64 nd]) 0).run Tryz.prog W = .ok u W := by
  unfold Instr.field
  have h : (isAgg 31).run Tryz.prog W = .ok false W := by kernel_rfl
  simp [run_underlying Tryz.underlying139, part, h, asAgg]
theorem area_nodes (p q : Value) (W : World) : (Instr.field 167 (.agg #[p, q]) 0).run Tryz.prog W = .ok p W := by
  unfold Instr.field
  have h : (isAgg 67).run Tryz.prog W = .ok false W := by kernel_rfl
  simp [run_underlying Tryz.underlying167, part, h, asAgg]
theorem area_pods (p q : Value) (W : World) : (Instr.field 167 (.agg #[p, q]) 1).run Tryz.prog W = .ok q W := by
  unfold Instr.field
  have h : (isAgg 67).run Tryz.prog W = .ok false W := by kernel_rfl
  simp [run_underlying Tryz.underlying167, part, h, asAgg]
set_option maxRecDepth 100000 in
theorem bitmap_k (R : Ending → World → Prop) (w : World) (n : Nat) (hn : n ≤ 65536)
    (hR : ∀ s b w', Below w.heap.size w w' → w.heap.size ≤ s → w.heap.size ≤ b → SetIn w' s b n (List.replicate ((n + 63) / 64) 0) → R (.returned (.pointer (some ⟨s, 0, none⟩))) w') : Calls Tryz.prog 55 #[.int .i64 n] w R := by
  have HR := Lib.hid hR
  clear hR
  go_enter Tryz.func55, Tryz.ntmps55
  go_wp2_with fail
  refine bnew_k _ _ n hn ?_
  intro s b w1 h1 h2 h3 h4
  have hv := HR.out s b w1 h1 h2 h3 h4
  go_wp2_with fail
  exact hv
set_option maxRecDepth 100000 in
theorem list_k (R : Ending → World → Prop) (w : World) (ok : Nat → Prop) (v : Value) (xs : List Lab) (hG : GOk w) (hok : ∀ k, ok k → k < w.heap.size) (hx : SlK labK 2 w ok v xs) (hs : LabsSmall xs)
    (hR : ∀ w', Below w.heap.size w w' → R (.returned (.bool ((chk xs).2 == 0))) w') : Calls Tryz.prog 140 #[v] w R := by
  have HR := Lib.hid hR
  clear hR
  have HX := Lib.hid hx
  obtain ⟨A, c, e, _, _⟩ := hx.form
  subst e
  go_enter Tryz.func140, Tryz.ntmps140
  go_wp2_with fail
  refine check_k _ _ ok _ xs hG hok HX.out hs ?_
  intro w1 h1
  have hv := HR.out w1 h1
  go_wp2_with fail
  exact hv
def tagV' (t : Tag) : Value := .agg #[.string t.1.1, .string t.1.2, .string t.2.1, .string t.2.2]
theorem count_d (R : Ending → World → Prop) (w : World) (h : Hdr) (own : Own') (S : St) (t : Tag) (x : Int) (D : DomAt w h own S) (hx : -9223372036854775808 ≤ (S.counts t).getD 0 + x ∧ (S.counts t).getD 0 + x ≤ 9223372036854775807)
    (hR : ∀ w', DomAt w' h own (countS S t x) → Mod (fun k => k = h.c) w w' → R (.returned (.tuple #[])) w') :
    Calls Tryz.prog 144 #[.pointer (some ⟨h.d, 0, none⟩), .agg #[.string t.1.1, .string t.1.2, .string t.2.1, .string t.2.2], .int .i64 x] w R := by
  obtain ⟨m, hm, hf⟩ := D.fc
  have hq : (aget m t).getD (.int .i64 0) = .int .i64 ((S.counts t).getD 0) := by
    have := hf t
    cases e1 : aget m t <;> cases e2 : S.counts t <;> rw [e1, e2] at this
    · rfl
    · exact this.elim
    · exact this.elim
    · exact this
  refine count_any R w h.d h.n h.g h.o h.a h.v h.c _ m t x ((S.counts t).getD 0) D.hd hm hq hx (fun w' hm' hM => hR w' ?_ hM)
  unfold countS
  refine D.setCounts hM ?_
  split
  · next e =>
    rw [if_pos e] at hm'
    exact FMap.del hm.nodup hf hm' (fun _ _ _ h => h)
  · next e =>
    rw [if_neg e] at hm'
    exact FMap.set hf hm' rfl (fun _ _ _ _ h => h)
end Go.Proofs.YtmenipaibjifiaaGreatDoor

namespace Go.Proofs.YtmenipaibjifiaaGreatDoor
open Go.RowKit Go.BigFrame

/-- What a mutator may touch: blocks that the domains own, and not the fixed ones. -/
abbrev Mut (own : Own') : Nat → Prop := fun k => own k ≠ none ∧ own k ≠ some .imm
theorem Mod.to_mut {own : Own'} {w w' : World} {b : Nat} {t : Owner} (h : Mod (fun k => k = b) w w') (hb : own b = some t) (ht : t ≠ .imm) : Mod (Mut own) w w' :=
  h.mono (fun k _ e => by subst e; exact ⟨by rw [hb]; simp, by rw [hb]; simpa using ht⟩)
theorem Mod.non_to {X : Nat → Prop} {w w' : World} (h : Mod Non w w') : Mod X w w' := h.mono (fun _ _ h => h.elim)
theorem Mod.seq {X : Nat → Prop} {a b c : World} (h : Mod X a b) (k : Mod X b c) : Mod X a c := h.trans k (fun _ _ h => h)
theorem Mod.keep {X : Nat → Prop} {a b : World} (h : Mod X a b) {k : Nat} {o : Obj} (hk : a.heap[k]? = some o) (hx : ¬ X k) : b.heap[k]? = some o := (h.block k (Array.getElem?_eq_some_iff.1 hk).1 hx).trans hk
theorem DomAt.drewN {w : World} {h : Hdr} {own : Own'} {S : St} (D : DomAt w h own S) (n : Nat) : DomAt (w.drewN n) h own S := D.same rfl rfl rfl rfl
theorem DomAt.drew {w : World} {h : Hdr} {own : Own'} {S : St} (D : DomAt w h own S) : DomAt w.drew h own S := D.same rfl rfl rfl rfl
theorem DomAt.alloc {w : World} {h : Hdr} {own : Own'} {S : St} (D : DomAt w h own S) (o : Obj) : DomAt (w.alloc o) h own S := D.below (Below.alloc (Below.refl _ _) (Nat.le_refl _) _)
/-- What is read at a domain's sets. -/
structure AreaAt (w : World) (h : Hdr) (own : Own') (S : St) (at_ : Spot) (x y : List Nat) (m : List (Spot × Value)) (sA bA sP bP : Nat) : Prop where
  hm : MapAt spotV w h.a m
  hf : ∀ k, OptR (areaR own w k) (aget m k) (S.areas k)
  hv : aget m at_ = some (.agg #[.pointer (some ⟨sA, 0, none⟩), .pointer (some ⟨sP, 0, none⟩)])
  hA : SetIn w sA bA 512 x
  hP : SetIn w sP bP 2048 y
  oA : own bA = some (.an at_)
  iA : own sA = some .imm
  oP : own bP = some (.ap at_)
  iP : own sP = some .imm
theorem DomAt.areaAt {w : World} {h : Hdr} {own : Own'} {S : St} (D : DomAt w h own S) {at_ : Spot} {x y : List Nat} (ha : S.areas at_ = some (x, y)) : ∃ m sA bA sP bP, AreaAt w h own S at_ x y m sA bA sP bP := by
  obtain ⟨m, hm, hmf⟩ := D.fa
  have hat := hmf at_
  rw [ha] at hat
  obtain ⟨v, hv, sA, bA, sP, bP, rfl, hSA, hSP, oA, iA, oP, iP⟩ := hat.some_l
  exact ⟨m, sA, bA, sP, bP, hm, hmf, hv, hSA, hSP, oA, iA, oP, iP⟩
theorem AreaAt.below {w w' : World} {h : Hdr} {own : Own'} {S : St} {at_ : Spot} {x y : List Nat} {m : List (Spot × Value)} {sA bA sP bP : Nat} (A : AreaAt w h own S at_ x y m sA bA sP bP) (D : DomAt w h own S) (hb : Below w.heap.size w w') : AreaAt w' h own S at_ x y m sA bA sP bP := by
  have hs : Step own own Non w w' := .of (Mod.of_below hb)
  have := A.hA.lt
  have := A.hP.lt
  exact ⟨A.hm.move (hb.block _ A.hm.lt), fun k => (A.hf k).imp (fun _ _ h => areaR_step hs (fun _ h => h.elim) (fun _ h => h.elim) (fun _ h => h.elim) h), A.hv, A.hA.move (hb.block _ (by omega)) (hb.block _ (by omega)), A.hP.move (hb.block _ (by omega)) (hb.block _ (by omega)), A.oA, A.iA, A.oP, A.iP⟩
theorem DomAt.guestRead {w : World} {h : Hdr} {own : Own'} {S : St} (D : DomAt w h own S) (pod : Int) : ∃ m u nd, MapAt (Value.int .i64) w h.g m ∧ (aget m pod).getD (.agg #[.slice none 0 0, .int .i64 0]) = .agg #[u, .int .i64 nd] ∧ Labs w (fun b => own b = some .imm) u (guestL S pod) ∧
    (aget m pod).isSome = (S.guests pod).isSome ∧ ∀ l q, S.guests pod = some (l, q) → nd = q := by
  obtain ⟨m, hm, hf⟩ := D.fg
  have hp := hf pod
  cases e : S.guests pod with
  | none =>
    rw [e] at hp
    have := hp.none_l
    exact ⟨m, .slice none 0 0, 0, hm, by rw [this]; rfl, by unfold guestL; rw [e]; exact SlK.nil, by rw [this]; rfl, fun l q h => by cases h⟩
  | some p =>
    obtain ⟨l, q⟩ := p
    rw [e] at hp
    obtain ⟨v, hv, u, rfl, hu⟩ := hp.some_l
    exact ⟨m, u, q, hm, by rw [hv]; rfl, by unfold guestL; rw [e]; exact hu, by rw [hv]; rfl, fun l q h => by cases h; rfl⟩

set_option maxRecDepth 100000 in
set_option maxHeartbeats 40000000 in
theorem enterPlus_d (R : Ending → World → Prop) (w : World) (h : Hdr) (own : Own') (S : St) (at_ : Spot) (pod : Int) (K : Int) (D : DomAt w h own S) (ha : (S.areas at_).isSome = true) (hK : 0 ≤ K ∧ K ≤ 4611686018427387904) (hsm : Small S K) (hgl : (guestL S pod).length ≤ 1048576)
    (hR : ∀ w', DomAt w' h own (enterS S at_ pod 1) → Mod (Mut own) w w' → R (.returned (.tuple #[])) w') :
    Calls Tryz.prog 60 #[.pointer (some ⟨h.d, 0, none⟩), .agg #[.string at_.1, .string at_.2], .int .i64 pod, .int .i64 1] w R := by
  obtain ⟨⟨x, y⟩, ha⟩ := Option.isSome_iff_exists.1 ha
  have HR := Lib.hid hR
  clear hR
  go_enter Tryz.func60, Tryz.ntmps60
  go_upto_region 2 with fail
  go_cut [8] (fun v wr => ∃ B1 m sA bA sP bP, v = .pointer (some ⟨B1, 0, none⟩) ∧ wr.heap[B1]? = some (.cells #[.pointer (some ⟨sA, 0, none⟩), .pointer (some ⟨sP, 0, none⟩)] 167) ∧ wr.heap[w.heap.size]? = some (.cells #[.string at_.1, .string at_.2] 143) ∧ DomAt wr h own S ∧ AreaAt wr h own S at_ x y m sA bA sP bP ∧ Mod Non w wr)
  case first =>
    go_upto_region 1 with fail
    have D0 := D.alloc (.cells #[.string at_.1, .string at_.2] 143)
    have n0 : (w.alloc (.cells #[.string at_.1, .string at_.2] 143)).heap[w.heap.size]? = some (.cells #[.string at_.1, .string at_.2] 143) := heap_alloc_new _ _
    have hM0 : Mod Non w (w.alloc (.cells #[.string at_.1, .string at_.2] 143)) := ((Mod.refl Non w).alloc _)
    generalize w.alloc (.cells #[.string at_.1, .string at_.2] 143) = W0 at *
    have c3 : W0.cell? ⟨h.d, 3, none⟩ = some (.map (some h.a)) := cell_at D0.hd rfl
    have s0 : W0.cell? ⟨w.heap.size, 0, none⟩ = some (.string at_.1) := cell_at n0 rfl
    have s1 : W0.cell? ⟨w.heap.size, 1, none⟩ = some (.string at_.2) := cell_at n0 rfl
    obtain ⟨m, sA, bA, sP, bP, A⟩ := D0.areaAt ha
    have hv := A.hv
    have hm := A.hm
    have l1 := (hm.move (w' := W0.drew) rfl).lookup spotK Tryz.underlying121 (z := .agg #[.pointer none, .pointer none]) (by kernel_rfl) at_ false
    simp only [hv, Option.getD_some, spotV, Bool.false_eq_true, if_false] at l1
    have c3' := cell_old c3 (.cells #[.pointer none, .pointer none] 167)
    have s0' := cell_old s0 (.cells #[.pointer none, .pointer none] 167)
    have s1' := cell_old s1 (.cells #[.pointer none, .pointer none] 167)
    have l1' := (hm.mod (((Mod.refl Non W0).alloc (.cells #[.pointer none, .pointer none] 167)).drew) (fun h => h)).lookup spotK Tryz.underlying121 (z := .agg #[.pointer none, .pointer none]) (by kernel_rfl) at_ false
    simp only [hv, Option.getD_some, spotV, Bool.false_eq_true, if_false] at l1'
    have HV := Lib.hid hv
    have DD := Lib.hid D0
    have AA := Lib.hid A
    have HM0 := Lib.hid hM0
    clear hv hm D0 A hM0
    go_region
    all_goals (
      go_wp2_with fail
      go_meet
      have hb := Below.alloc (Below.refl W0.heap.size W0) (Nat.le_refl _) (.cells #[.pointer (some ⟨sA, 0, none⟩), .pointer (some ⟨sP, 0, none⟩)] 167)
      exact ⟨W0.heap.size, m, sA, bA, sP, bP, rfl, heap_alloc_new _ _, heap_keep n0 _, (DD.out.below hb).drew, AA.out.below DD.out hb.drew, (HM0.out.alloc _).drew⟩)
  case rest =>
    obtain ⟨B1, m, sA, bA, sP, bP, rfl, hb1, hb0, D1, A1, hM1⟩ := hcut
    have a1 : wc.cell? ⟨B1, 1, none⟩ = some (.pointer (some ⟨sP, 0, none⟩)) := cell_at hb1 rfl
    have hown0 : own w.heap.size = none := D.lim _ (Nat.le_refl _)
    have HA := Lib.hid A1
    have HD := Lib.hid D1
    have HD0 := Lib.hid D
    have HM1 := Lib.hid hM1
    clear A1 D1 D hM1
    go_wp2_with fail
    refine add_k _ _ sP bP 2048 y pod HA.out.hP ?_
    intro vb w2 hM2 hS2
    have D2 : DomAt w2 h own (podSet S at_ pod 1) := by
      have := HD.out.setAp HA.out.oP hM2 hS2 HA.out.hA HA.out.hm HA.out.hf HA.out.hv HA.out.iA HA.out.oA HA.out.iP
      unfold podSet
      rw [ha]
      exact this
    have hM20 : Mod (Mut own) w w2 := HM1.out.non_to.seq (hM2.to_mut HA.out.oP (by simp))
    have hb2 : w2.heap[w.heap.size]? = some (.cells #[.string at_.1, .string at_.2] 143) := hM2.keep hb0 (fun e => by have := HA.out.oP; rw [← e, hown0] at this; cases this)
    have hgs : (podSet S at_ pod 1).guests = S.guests := by unfold podSet; rw [ha]
    obtain ⟨mg, u, nd, hmg, hgu, hlu, -, -⟩ := D2.guestRead pod
    rw [show guestL (podSet S at_ pod 1) pod = guestL S pod by unfold guestL; rw [hgs]] at hlu
    obtain ⟨L, hL⟩ : ∃ L, guestL S pod = L := ⟨_, rfl⟩
    rw [hL] at hlu hgl
    have HLU := Lib.hid hlu
    obtain ⟨Ad, cp, e, hcl, _⟩ := hlu.form
    subst e
    have d1 : w2.cell? ⟨h.d, 1, none⟩ = some (.map (some h.g)) := cell_at D2.hd rfl
    have lg := hmg.lookup intK Tryz.underlying119 (z := .agg #[.slice none 0 0, .int .i64 0]) (by kernel_rfl) pod false
    simp only [hgu, Bool.false_eq_true, if_false] at lg
    have hsm2 := small_podSet hsm at_ pod 1
    have HSM := Lib.hid hsm2
    have HL := Lib.hid hL
    have HD2 := Lib.hid D2
    have HM2 := Lib.hid hM20
    have HB2 := Lib.hid hb2
    have hfl := guest_list (.slice Ad L.length cp) nd w2
    clear hgu D2 hM20 hsm2 hL hM2 hS2 hmg hb2 hlu HA HD HM1 hb1 a1 hb0 hgs hsm
    go_wp2_with fail
    go_loopw [10, 35] (fun _ i wr => ∃ k : Nat, k ≤ L.length ∧ i = .int .i64 k ∧ DomAt wr h own ((L.take k).foldl (fun S l => countS S (tagOf at_ l) 1) (podSet S at_ pod 1)) ∧ Mod (Mut own) w2 wr ∧ wr.heap[w.heap.size]? = some (.cells #[.string at_.1, .string at_.2] 143)) (fun _ i _ => L.length - (intOf i).toNat)
    case atStart => exact ⟨0, Nat.zero_le _, rfl, HD2.out, Mod.refl _ _, HB2.out⟩
    case round =>
      obtain ⟨k, hk, rfl, Dk, hMk, hbk⟩ := hrel
      have hlr : Labs wr (fun b => own b = some .imm ∧ b < w2.heap.size) (.slice Ad L.length cp) L := SlK.move labOk (SlK.bnd labOk HLU.out) (fun j hj => hMk.block j hj.2 (fun hx => hx.2 hj.1))
      by_cases hkl : k < L.length
      · obtain ⟨b, off, c', he, _, _, hbk2, hbl, hce⟩ := hlr.addr (by omega)
        simp only [Value.slice.injEq] at he
        obtain ⟨rfl, -, rfl⟩ := he
        obtain ⟨c0, c1⟩ := lab_cells hce k hkl
        clear hce hlr
        have q0 : wr.cell? ⟨w.heap.size, 0, none⟩ = some (.string at_.1) := cell_at hbk rfl
        have q1 : wr.cell? ⟨w.heap.size, 1, none⟩ = some (.string at_.2) := cell_at hbk rfl
        have q2 := Lib.hid hbk
        have HDk := Lib.hid Dk
        have HMk := Lib.hid hMk
        clear hbk Dk hMk
        have q0' := cell_old q0 (.cells #[.string (L[k]'hkl).key, .string (L[k]'hkl).val] 108)
        have q1' := cell_old q1 (.cells #[.string (L[k]'hkl).key, .string (L[k]'hkl).val] 108)
        have hsk := small_foldCount (at_ := at_) (n := 1) (by omega) (L.take k) HSM.out hK.1
        have hlk : (L.take k).length = k := by rw [List.length_take]; omega
        rw [hlk] at hsk
        have hbd := hsk.getC (by omega) (tagOf at_ (L[k]'hkl))
        have HBD := Lib.hid hbd
        clear hbd hsk hlk
        go_wp2_with fail
        refine count_d _ _ h own _ (tagOf at_ (L[k]'hkl)) 1 (HDk.out.alloc _) (by have := HBD.out; omega) ?_
        intro w5 D5 hM5
        have e1 : countS (((L.take k).foldl (fun S l => countS S (tagOf at_ l) 1) (podSet S at_ pod 1))) (tagOf at_ (L[k]'hkl)) 1 = ((L.take (k + 1)).foldl (fun S l => countS S (tagOf at_ l) 1) (podSet S at_ pod 1)) := by
          rw [List.take_succ_eq_append_getElem hkl, List.foldl_append]; rfl
        rw [e1] at D5
        have hal : Mod Non wr (wr.alloc (.cells #[.string (L[k]'hkl).key, .string (L[k]'hkl).val] 108)) := (Mod.refl Non wr).alloc _
        have hM6 : Mod (Mut own) w2 w5 := (HMk.out.seq hal.non_to).seq (hM5.to_mut HD0.out.oc (by simp))
        have hb6 := hM5.keep (heap_keep q2.out _) (fun e => by have := HD0.out.oc; rw [← e, hown0] at this; cases this)
        have HD5 := Lib.hid D5
        have HM6 := Lib.hid hM6
        have HB6 := Lib.hid hb6
        clear D5 hM6 hb6 hM5 hal e1 q0' q1'
        go_wp2_with fail
        go_roundw
        case rel => exact ⟨k + 1, by omega, by go_num, HD5.out, HM6.out, HB6.out⟩
        case measure => simp [intOf]; omega
      · obtain rfl : k = L.length := by omega
        rw [List.take_length] at Dk
        have hv := HR.out wr (by unfold enterS; rw [HL.out]; exact Dk) (HM2.out.seq hMk)
        clear hlr hbk Dk hMk
        go_wp2_with fail
        go_end0
        exact hv

set_option maxRecDepth 100000 in
set_option maxHeartbeats 40000000 in
theorem enterMinus_d (R : Ending → World → Prop) (w : World) (h : Hdr) (own : Own') (S : St) (at_ : Spot) (pod : Int) (K : Int) (D : DomAt w h own S) (ha : (S.areas at_).isSome = true) (hK : 0 ≤ K ∧ K ≤ 4611686018427387904) (hsm : Small S K) (hgl : (guestL S pod).length ≤ 1048576)
    (hR : ∀ w', DomAt w' h own (enterS S at_ pod (-1)) → Mod (Mut own) w w' → R (.returned (.tuple #[])) w') :
    Calls Tryz.prog 60 #[.pointer (some ⟨h.d, 0, none⟩), .agg #[.string at_.1, .string at_.2], .int .i64 pod, .int .i64 (-1)] w R := by
  obtain ⟨⟨x, y⟩, ha⟩ := Option.isSome_iff_exists.1 ha
  have HR := Lib.hid hR
  clear hR
  go_enter Tryz.func60, Tryz.ntmps60
  go_upto_region 2 with fail
  go_cut [8] (fun v wr => ∃ B1 m sA bA sP bP, v = .pointer (some ⟨B1, 0, none⟩) ∧ wr.heap[B1]? = some (.cells #[.pointer (some ⟨sA, 0, none⟩), .pointer (some ⟨sP, 0, none⟩)] 167) ∧ wr.heap[w.heap.size]? = some (.cells #[.string at_.1, .string at_.2] 143) ∧ DomAt wr h own S ∧ AreaAt wr h own S at_ x y m sA bA sP bP ∧ Mod Non w wr)
  case first =>
    go_upto_region 1 with fail
    have D0 := D.alloc (.cells #[.string at_.1, .string at_.2] 143)
    have n0 : (w.alloc (.cells #[.string at_.1, .string at_.2] 143)).heap[w.heap.size]? = some (.cells #[.string at_.1, .string at_.2] 143) := heap_alloc_new _ _
    have hM0 : Mod Non w (w.alloc (.cells #[.string at_.1, .string at_.2] 143)) := ((Mod.refl Non w).alloc _)
    generalize w.alloc (.cells #[.string at_.1, .string at_.2] 143) = W0 at *
    have c3 : W0.cell? ⟨h.d, 3, none⟩ = some (.map (some h.a)) := cell_at D0.hd rfl
    have s0 : W0.cell? ⟨w.heap.size, 0, none⟩ = some (.string at_.1) := cell_at n0 rfl
    have s1 : W0.cell? ⟨w.heap.size, 1, none⟩ = some (.string at_.2) := cell_at n0 rfl
    obtain ⟨m, sA, bA, sP, bP, A⟩ := D0.areaAt ha
    have hv := A.hv
    have hm := A.hm
    have l1 := (hm.move (w' := W0.drew) rfl).lookup spotK Tryz.underlying121 (z := .agg #[.pointer none, .pointer none]) (by kernel_rfl) at_ false
    simp only [hv, Option.getD_some, spotV, Bool.false_eq_true, if_false] at l1
    have c3' := cell_old c3 (.cells #[.pointer none, .pointer none] 167)
    have s0' := cell_old s0 (.cells #[.pointer none, .pointer none] 167)
    have s1' := cell_old s1 (.cells #[.pointer none, .pointer none] 167)
    have l1' := (hm.mod (((Mod.refl Non W0).alloc (.cells #[.pointer none, .pointer none] 167)).drew) (fun h => h)).lookup spotK Tryz.underlying121 (z := .agg #[.pointer none, .pointer none]) (by kernel_rfl) at_ false
    simp only [hv, Option.getD_some, spotV, Bool.false_eq_true, if_false] at l1'
    have HV := Lib.hid hv
    have DD := Lib.hid D0
    have AA := Lib.hid A
    have HM0 := Lib.hid hM0
    clear hv hm D0 A hM0
    go_region
    all_goals (
      go_wp2_with fail
      go_meet
      have hb := Below.alloc (Below.refl W0.heap.size W0) (Nat.le_refl _) (.cells #[.pointer (some ⟨sA, 0, none⟩), .pointer (some ⟨sP, 0, none⟩)] 167)
      exact ⟨W0.heap.size, m, sA, bA, sP, bP, rfl, heap_alloc_new _ _, heap_keep n0 _, (DD.out.below hb).drew, AA.out.below DD.out hb.drew, (HM0.out.alloc _).drew⟩)
  case rest =>
    obtain ⟨B1, m, sA, bA, sP, bP, rfl, hb1, hb0, D1, A1, hM1⟩ := hcut
    have a1 : wc.cell? ⟨B1, 1, none⟩ = some (.pointer (some ⟨sP, 0, none⟩)) := cell_at hb1 rfl
    have hown0 : own w.heap.size = none := D.lim _ (Nat.le_refl _)
    have HA := Lib.hid A1
    have HD := Lib.hid D1
    have HD0 := Lib.hid D
    have HM1 := Lib.hid hM1
    clear A1 D1 D hM1
    go_wp2_with fail
    refine remove_k _ _ sP bP 2048 y pod HA.out.hP ?_
    intro vb w2 hM2 hS2
    have D2 : DomAt w2 h own (podSet S at_ pod (-1)) := by
      have := HD.out.setAp HA.out.oP hM2 hS2 HA.out.hA HA.out.hm HA.out.hf HA.out.hv HA.out.iA HA.out.oA HA.out.iP
      unfold podSet
      rw [ha]
      exact this
    have hM20 : Mod (Mut own) w w2 := HM1.out.non_to.seq (hM2.to_mut HA.out.oP (by simp))
    have hb2 : w2.heap[w.heap.size]? = some (.cells #[.string at_.1, .string at_.2] 143) := hM2.keep hb0 (fun e => by have := HA.out.oP; rw [← e, hown0] at this; cases this)
    have hgs : (podSet S at_ pod (-1)).guests = S.guests := by unfold podSet; rw [ha]
    obtain ⟨mg, u, nd, hmg, hgu, hlu, -, -⟩ := D2.guestRead pod
    rw [show guestL (podSet S at_ pod (-1)) pod = guestL S pod by unfold guestL; rw [hgs]] at hlu
    obtain ⟨L, hL⟩ : ∃ L, guestL S pod = L := ⟨_, rfl⟩
    rw [hL] at hlu hgl
    have HLU := Lib.hid hlu
    obtain ⟨Ad, cp, e, hcl, _⟩ := hlu.form
    subst e
    have d1 : w2.cell? ⟨h.d, 1, none⟩ = some (.map (some h.g)) := cell_at D2.hd rfl
    have lg := hmg.lookup intK Tryz.underlying119 (z := .agg #[.slice none 0 0, .int .i64 0]) (by kernel_rfl) pod false
    simp only [hgu, Bool.false_eq_true, if_false] at lg
    have hsm2 := small_podSet hsm at_ pod (-1)
    have HSM := Lib.hid hsm2
    have HL := Lib.hid hL
    have HD2 := Lib.hid D2
    have HM2 := Lib.hid hM20
    have HB2 := Lib.hid hb2
    have hfl := guest_list (.slice Ad L.length cp) nd w2
    clear hgu D2 hM20 hsm2 hL hM2 hS2 hmg hb2 hlu HA HD HM1 hb1 a1 hb0 hgs hsm
    go_wp2_with fail
    go_loopw [10, 35] (fun _ i wr => ∃ k : Nat, k ≤ L.length ∧ i = .int .i64 k ∧ DomAt wr h own ((L.take k).foldl (fun S l => countS S (tagOf at_ l) (-1)) (podSet S at_ pod (-1))) ∧ Mod (Mut own) w2 wr ∧ wr.heap[w.heap.size]? = some (.cells #[.string at_.1, .string at_.2] 143)) (fun _ i _ => L.length - (intOf i).toNat)
    case atStart => exact ⟨0, Nat.zero_le _, rfl, HD2.out, Mod.refl _ _, HB2.out⟩
    case round =>
      obtain ⟨k, hk, rfl, Dk, hMk, hbk⟩ := hrel
      have hlr : Labs wr (fun b => own b = some .imm ∧ b < w2.heap.size) (.slice Ad L.length cp) L := SlK.move labOk (SlK.bnd labOk HLU.out) (fun j hj => hMk.block j hj.2 (fun hx => hx.2 hj.1))
      by_cases hkl : k < L.length
      · obtain ⟨b, off, c', he, _, _, hbk2, hbl, hce⟩ := hlr.addr (by omega)
        simp only [Value.slice.injEq] at he
        obtain ⟨rfl, -, rfl⟩ := he
        obtain ⟨c0, c1⟩ := lab_cells hce k hkl
        clear hce hlr
        have q0 : wr.cell? ⟨w.heap.size, 0, none⟩ = some (.string at_.1) := cell_at hbk rfl
        have q1 : wr.cell? ⟨w.heap.size, 1, none⟩ = some (.string at_.2) := cell_at hbk rfl
        have q2 := Lib.hid hbk
        have HDk := Lib.hid Dk
        have HMk := Lib.hid hMk
        clear hbk Dk hMk
        have q0' := cell_old q0 (.cells #[.string (L[k]'hkl).key, .string (L[k]'hkl).val] 108)
        have q1' := cell_old q1 (.cells #[.string (L[k]'hkl).key, .string (L[k]'hkl).val] 108)
        have hsk := small_foldCount (at_ := at_) (n := (-1)) (by omega) (L.take k) HSM.out hK.1
        have hlk : (L.take k).length = k := by rw [List.length_take]; omega
        rw [hlk] at hsk
        have hbd := hsk.getC (by omega) (tagOf at_ (L[k]'hkl))
        have HBD := Lib.hid hbd
        clear hbd hsk hlk
        go_wp2_with fail
        refine count_d _ _ h own _ (tagOf at_ (L[k]'hkl)) (-1) (HDk.out.alloc _) (by have := HBD.out; omega) ?_
        intro w5 D5 hM5
        have e1 : countS (((L.take k).foldl (fun S l => countS S (tagOf at_ l) (-1)) (podSet S at_ pod (-1)))) (tagOf at_ (L[k]'hkl)) (-1) = ((L.take (k + 1)).foldl (fun S l => countS S (tagOf at_ l) (-1)) (podSet S at_ pod (-1))) := by
          rw [List.take_succ_eq_append_getElem hkl, List.foldl_append]; rfl
        rw [e1] at D5
        have hal : Mod Non wr (wr.alloc (.cells #[.string (L[k]'hkl).key, .string (L[k]'hkl).val] 108)) := (Mod.refl Non wr).alloc _
        have hM6 : Mod (Mut own) w2 w5 := (HMk.out.seq hal.non_to).seq (hM5.to_mut HD0.out.oc (by simp))
        have hb6 := hM5.keep (heap_keep q2.out _) (fun e => by have := HD0.out.oc; rw [← e, hown0] at this; cases this)
        have HD5 := Lib.hid D5
        have HM6 := Lib.hid hM6
        have HB6 := Lib.hid hb6
        clear D5 hM6 hb6 hM5 hal e1 q0' q1'
        go_wp2_with fail
        go_roundw
        case rel => exact ⟨k + 1, by omega, by go_num, HD5.out, HM6.out, HB6.out⟩
        case measure => simp [intOf]; omega
      · obtain rfl : k = L.length := by omega
        rw [List.take_length] at Dk
        have hv := HR.out wr (by unfold enterS; rw [HL.out]; exact Dk) (HM2.out.seq hMk)
        clear hlr hbk Dk hMk
        go_wp2_with fail
        go_end0
        exact hv
end Go.Proofs.YtmenipaibjifiaaGreatDoor

namespace Go.Proofs.YtmenipaibjifiaaGreatDoor
open Go.RowKit

section
variable {w w' : World} {h : Hdr} {own own' : Own'} {S : St}
theorem DomAt.setNodes (D : DomAt w h own S) (hs : Step own own' (fun k => k = h.n) w w') (hl : ∀ k, w'.heap.size ≤ k → own' k = none) {f : Int → Option (List Lab)} (hf : FMap (Value.int .i64) w' h.n (nodeR own' w') f) : DomAt w' h own' { S with nodes := f } := by
  have ne : ∀ {u : Owner}, Owner.nodes ≠ u → ∀ j, j = h.n → own j ≠ some u := fun hu => one_ne D.on_ hu
  have R := D.rest hs (ne (by simp)) hl
  exact ⟨R.hd, R.lim, R.od, R.on_, R.og, R.oo, R.oa, R.ov, R.oc, hf, D.fg' hs (ne (by simp)) (ne (by simp)), D.fo' hs (ne (by simp)) (ne (by simp)) (fun _ => ne (by simp)),
    D.fa' hs (ne (by simp)) (ne (by simp)) (fun _ => ne (by simp)) (fun _ => ne (by simp)), D.fv' hs (ne (by simp)) (fun _ => ne (by simp)), D.fc' hs (ne (by simp))⟩
theorem DomAt.setGuests (D : DomAt w h own S) (hs : Step own own' (fun k => k = h.g) w w') (hl : ∀ k, w'.heap.size ≤ k → own' k = none) {f : Int → Option (List Lab × Int)} (hf : FMap (Value.int .i64) w' h.g (guestR own' w') f) : DomAt w' h own' { S with guests := f } := by
  have ne : ∀ {u : Owner}, Owner.guests ≠ u → ∀ j, j = h.g → own j ≠ some u := fun hu => one_ne D.og hu
  have R := D.rest hs (ne (by simp)) hl
  exact ⟨R.hd, R.lim, R.od, R.on_, R.og, R.oo, R.oa, R.ov, R.oc, D.fn' hs (ne (by simp)) (ne (by simp)), hf, D.fo' hs (ne (by simp)) (ne (by simp)) (fun _ => ne (by simp)),
    D.fa' hs (ne (by simp)) (ne (by simp)) (fun _ => ne (by simp)) (fun _ => ne (by simp)), D.fv' hs (ne (by simp)) (fun _ => ne (by simp)), D.fc' hs (ne (by simp))⟩
theorem DomAt.setOns (D : DomAt w h own S) (hs : Step own own' (fun k => k = h.o) w w') (hl : ∀ k, w'.heap.size ≤ k → own' k = none) {f : Int → Option (List Nat)} (hf : FMap (Value.int .i64) w' h.o (onR own' w') f) : DomAt w' h own' { S with on := f } := by
  have ne : ∀ {u : Owner}, Owner.ons ≠ u → ∀ j, j = h.o → own j ≠ some u := fun hu => one_ne D.oo hu
  have R := D.rest hs (ne (by simp)) hl
  exact ⟨R.hd, R.lim, R.od, R.on_, R.og, R.oo, R.oa, R.ov, R.oc, D.fn' hs (ne (by simp)) (ne (by simp)), D.fg' hs (ne (by simp)) (ne (by simp)), hf,
    D.fa' hs (ne (by simp)) (ne (by simp)) (fun _ => ne (by simp)) (fun _ => ne (by simp)), D.fv' hs (ne (by simp)) (fun _ => ne (by simp)), D.fc' hs (ne (by simp))⟩
theorem DomAt.setAreas (D : DomAt w h own S) (hs : Step own own' (fun k => k = h.a) w w') (hl : ∀ k, w'.heap.size ≤ k → own' k = none) {f : Spot → Option (List Nat × List Nat)} (hf : FMap spotV w' h.a (areaR own' w') f) : DomAt w' h own' { S with areas := f } := by
  have ne : ∀ {u : Owner}, Owner.areas ≠ u → ∀ j, j = h.a → own j ≠ some u := fun hu => one_ne D.oa hu
  have R := D.rest hs (ne (by simp)) hl
  exact ⟨R.hd, R.lim, R.od, R.on_, R.og, R.oo, R.oa, R.ov, R.oc, D.fn' hs (ne (by simp)) (ne (by simp)), D.fg' hs (ne (by simp)) (ne (by simp)), D.fo' hs (ne (by simp)) (ne (by simp)) (fun _ => ne (by simp)),
    hf, D.fv' hs (ne (by simp)) (fun _ => ne (by simp)), D.fc' hs (ne (by simp))⟩
theorem DomAt.setValues (D : DomAt w h own S) (hs : Step own own' (fun k => k = h.v) w w') (hl : ∀ k, w'.heap.size ≤ k → own' k = none) {f : ByteArray → Option (ByteArray → Option Int)} (hf : FMap Value.string w' h.v (valR own' w') f) : DomAt w' h own' { S with values := f } := by
  have ne : ∀ {u : Owner}, Owner.values ≠ u → ∀ j, j = h.v → own j ≠ some u := fun hu => one_ne D.ov hu
  have R := D.rest hs (ne (by simp)) hl
  exact ⟨R.hd, R.lim, R.od, R.on_, R.og, R.oo, R.oa, R.ov, R.oc, D.fn' hs (ne (by simp)) (ne (by simp)), D.fg' hs (ne (by simp)) (ne (by simp)), D.fo' hs (ne (by simp)) (ne (by simp)) (fun _ => ne (by simp)),
    D.fa' hs (ne (by simp)) (ne (by simp)) (fun _ => ne (by simp)) (fun _ => ne (by simp)), hf, D.fc' hs (ne (by simp))⟩
/-- The map behind a key of values. -/
theorem DomAt.setInner (D : DomAt w h own S) {k : ByteArray} {b : Nat} (hb : own b = some (.inner k)) (hm : Mod (fun j => j = b) w w') {m : List (ByteArray × Value)} (hma : MapAt Value.string w h.v m) (hmf : ∀ k, OptR (valR own w k) (aget m k) (S.values k))
    (hv : aget m k = some (.map (some b))) {g : ByteArray → Option Int} (hg : FMap Value.string w' b numR g) : DomAt w' h own { S with values := upd S.values k (some g) } := by
  have hs : Step own own (fun j => j = b) w w' := .of hm
  have ne : ∀ {u : Owner}, Owner.inner k ≠ u → ∀ j, j = b → own j ≠ some u := fun hu => one_ne hb hu
  have R := D.rest hs (ne (by simp)) (fun k hk => D.lim k (Nat.le_trans hm.size hk))
  refine ⟨R.hd, R.lim, R.od, R.on_, R.og, R.oo, R.oa, R.ov, R.oc, D.fn' hs (ne (by simp)) (ne (by simp)), D.fg' hs (ne (by simp)) (ne (by simp)), D.fo' hs (ne (by simp)) (ne (by simp)) (fun _ => ne (by simp)),
    D.fa' hs (ne (by simp)) (ne (by simp)) (fun _ => ne (by simp)) (fun _ => ne (by simp)), ?_, D.fc' hs (ne (by simp))⟩
  exact FMap.upd_at hma hmf (hs.keep (D.lt D.ov) (fun c => ne (u := .values) (by simp) _ c D.ov)) hv ⟨b, rfl, hb, hg⟩ (fun j v x hj hr => valR_step hs (ne (by simpa using fun e => hj e.symm)) hr)
end

/-- m[k] = v in whatever world in which the map lies as it lay. -/
theorem MapAt.update_any {P : Program} {κ : Type} [DecidableEq κ] {enc : κ → Value} {w : World} {b : Nat} {m : List (κ × Value)} (h : MapAt enc w b m) {kt e t : TypeId} (K : KeyT P kt enc) (ht : P.underlying t = some (.map kt e)) (k : κ) :
    ∃ o : Value → World → Obj, ∀ W, W.heap[b]? = w.heap[b]? → ∀ v, (Instr.mapUpdate t (.map (some b)) (enc k) v).run P W = .ok () (putObj W b (o v W)) ∧ MapAt enc (putObj W b (o v W)) b (aset m k v) := by
  have hx : ∀ (v : Value) (W : World), ∃ o, W.heap[b]? = w.heap[b]? → (Instr.mapUpdate t (.map (some b)) (enc k) v).run P W = .ok () (putObj W b o) ∧ MapAt enc (putObj W b o) b (aset m k v) := fun v W => by
    by_cases e : W.heap[b]? = w.heap[b]?
    · obtain ⟨o, h1, h2⟩ := (h.move e).update K ht k v
      exact ⟨o, fun _ => ⟨h1, h2⟩⟩
    · exact ⟨.map #[] 0, fun e' => absurd e' e⟩
  refine ⟨fun v W => (hx v W).choose, fun W hW v => (hx v W).choose_spec hW⟩

/-- What lay has the owner that it had. -/
abbrev Ext (w : World) (own own' : Own') : Prop := ∀ k, k < w.heap.size → own' k = own k
theorem Ext.refl (w : World) (own : Own') : Ext w own own := fun _ _ => rfl
theorem Ext.trans {w w1 : World} {a b c : Own'} (h : Ext w a b) (k : Ext w1 b c) (hs : w.heap.size ≤ w1.heap.size) : Ext w a c := fun i hi => (k i (by omega)).trans (h i hi)
theorem Mod.chain {w w1 w2 : World} {own own' : Own'} (h1 : Mod (Mut own) w w1) (h2 : Mod (Mut own') w1 w2) (e : Ext w own own') : Mod (Mut own) w w2 :=
  h1.trans h2 (fun i hi hm => by
    unfold Mut at hm ⊢
    rw [← e i hi]
    exact hm)
def addOwn (own : Own') (s : Nat) (t : Owner) : Own' := fun k => if k = s then some t else own k
theorem addOwn_same (own : Own') (s : Nat) (t : Owner) : addOwn own s t s = some t := by simp [addOwn]
theorem addOwn_ne (own : Own') {s k : Nat} (t : Owner) (h : k ≠ s) : addOwn own s t k = own k := by simp [addOwn, h]
theorem addOwn_cases (own : Own') (s k : Nat) (t : Owner) : addOwn own s t k = own k ∨ k = s := by
  by_cases e : k = s
  · exact .inr e
  · exact .inl (addOwn_ne own t e)
def areaOwn (own : Own') (at_ : Spot) (s b s2 b2 : Nat) : Own' := addOwn (addOwn (addOwn (addOwn own b2 (.ap at_)) b (.an at_)) s2 .imm) s .imm
/-- An area that is new. -/
theorem DomAt.newArea {w w2 w3 : World} {h : Hdr} {own : Own'} {S : St} (D : DomAt w h own S) {at_ : Spot} {s b s2 b2 : Nat} (hB : Below w.heap.size w w2) (hS : SetIn w2 s b 512 (List.replicate 8 0)) (hS2 : SetIn w2 s2 b2 2048 (List.replicate 32 0))
    (hls : w.heap.size ≤ s ∧ w.heap.size ≤ b ∧ w.heap.size ≤ s2 ∧ w.heap.size ≤ b2) (hd : s ≠ b2 ∧ s2 ≠ b ∧ b ≠ b2) {m : List (Spot × Value)} (hf : ∀ k, OptR (areaR own w k) (aget m k) (S.areas k))
    (hm3 : MapAt spotV w3 h.a (aset m at_ (.agg #[.pointer (some ⟨s, 0, none⟩), .pointer (some ⟨s2, 0, none⟩)]))) (hM : Mod (fun k => k = h.a) w2 w3) :
    Ext w own (areaOwn own at_ s b s2 b2) ∧ (∀ k, areaOwn own at_ s b s2 b2 k = own k ∨ k = s ∨ k = b ∨ k = s2 ∨ k = b2) ∧ DomAt w3 h (areaOwn own at_ s b s2 b2) { S with areas := upd S.areas at_ (some (List.replicate 8 0, List.replicate 32 0)) } := by
  have l1 := hS.lt
  have l2 := hS2.lt
  have a1 := hS.1
  have a2 := hS2.1
  have hE : Ext w own (areaOwn own at_ s b s2 b2) := by
    intro k hk
    unfold areaOwn
    rw [addOwn_ne _ _ (by omega), addOwn_ne _ _ (by omega), addOwn_ne _ _ (by omega), addOwn_ne _ _ (by omega)]
  refine ⟨hE, fun k => ?_, ?_⟩
  · unfold areaOwn
    rcases addOwn_cases (addOwn (addOwn (addOwn own b2 (.ap at_)) b (.an at_)) s2 .imm) s k .imm with e | e
    · rw [e]
      rcases addOwn_cases (addOwn (addOwn own b2 (.ap at_)) b (.an at_)) s2 k .imm with e | e
      · rw [e]
        rcases addOwn_cases (addOwn own b2 (.ap at_)) b k (.an at_) with e | e
        · rw [e]
          rcases addOwn_cases own b2 k (.ap at_) with e | e
          · exact .inl e
          · exact .inr (.inr (.inr (.inr e)))
        · exact .inr (.inr (.inl e))
      · exact .inr (.inr (.inr (.inl e)))
    · exact .inr (.inl e)
  · have hla := D.lt D.oa
    have hMw : Mod (fun k => k = h.a) w w3 := (Mod.of_below hB).non_to.trans hM (fun _ _ e => e)
    have hs : Step own (areaOwn own at_ s b s2 b2) (fun k => k = h.a) w w3 := ⟨hMw, hE⟩
    refine D.setAreas hs (fun k hk => ?_) ?_
    · have := hM.size
      have := hB.size
      unfold areaOwn
      rw [addOwn_ne _ _ (by omega), addOwn_ne _ _ (by omega), addOwn_ne _ _ (by omega), addOwn_ne _ _ (by omega)]
      exact D.lim k (by omega)
    · have kp : ∀ k, k < w2.heap.size → w.heap.size ≤ k → w3.heap[k]? = w2.heap[k]? := fun k h1 h2 => hM.block k h1 (by omega)
      refine FMap.set hf hm3 ⟨s, b, s2, b2, rfl, hS.move (kp s (by omega) (by omega)) (kp b (by omega) (by omega)), hS2.move (kp s2 (by omega) (by omega)) (kp b2 (by omega) (by omega)), ?_, ?_, ?_, ?_⟩ (fun j v x _ hr => areaR_step hs (one_ne D.oa (by simp)) (one_ne D.oa (by simp)) (one_ne D.oa (by simp)) hr)
      · unfold areaOwn
        rw [addOwn_ne _ _ (by omega), addOwn_ne _ _ (by omega), addOwn_same]
      · unfold areaOwn
        rw [addOwn_same]
      · unfold areaOwn
        rw [addOwn_ne _ _ (by omega), addOwn_ne _ _ (by omega), addOwn_ne _ _ (by omega), addOwn_same]
      · unfold areaOwn
        by_cases e : s2 = s
        · rw [e, addOwn_same]
        · rw [addOwn_ne _ _ e, addOwn_same]
/-- A key that is new, with an empty map. -/
theorem DomAt.newKey {w w2 w3 : World} {h : Hdr} {own : Own'} {S : St} (D : DomAt w h own S) {key : ByteArray} {b : Nat} (hB : Below w.heap.size w w2) (hb : w.heap.size ≤ b) (hb2 : w2.heap[b]? = some (.map #[] 0)) {m : List (ByteArray × Value)} (hf : ∀ k, OptR (valR own w k) (aget m k) (S.values k))
    (hm3 : MapAt Value.string w3 h.v (aset m key (.map (some b)))) (hM : Mod (fun k => k = h.v) w2 w3) :
    Ext w own (addOwn own b (.inner key)) ∧ DomAt w3 h (addOwn own b (.inner key)) { S with values := upd S.values key (some fun _ => none) } := by
  have hE : Ext w own (addOwn own b (.inner key)) := fun k hk => addOwn_ne _ _ (by omega)
  have hlb : b < w2.heap.size := (Array.getElem?_eq_some_iff.1 hb2).1
  have hla := D.lt D.ov
  have hMw : Mod (fun k => k = h.v) w w3 := (Mod.of_below hB).non_to.trans hM (fun _ _ e => e)
  have hs : Step own (addOwn own b (.inner key)) (fun k => k = h.v) w w3 := ⟨hMw, hE⟩
  refine ⟨hE, D.setValues hs (fun k hk => ?_) ?_⟩
  · have := hM.size
    have := hB.size
    rw [addOwn_ne _ _ (by omega)]
    exact D.lim k (by omega)
  · refine FMap.set hf hm3 ⟨b, rfl, addOwn_same _ _ _, FMap.empty (mapEmpty ((hM.block b hlb (by omega)).trans hb2))⟩ (fun j v x _ hr => valR_step hs (one_ne D.ov (by simp)) hr)
/-- on[slot] is a new set. -/
theorem DomAt.newOn {w w2 w3 : World} {h : Hdr} {own : Own'} {S : St} (D : DomAt w h own S) {slot : Int} {s b : Nat} (hB : Below w.heap.size w w2) (hS : SetIn w2 s b 2048 (List.replicate 32 0)) (hls : w.heap.size ≤ s ∧ w.heap.size ≤ b) {m : List (Int × Value)} (hf : ∀ k, OptR (onR own w k) (aget m k) (S.on k))
    (hm3 : MapAt (Value.int .i64) w3 h.o (aset m slot (.pointer (some ⟨s, 0, none⟩)))) (hM : Mod (fun k => k = h.o) w2 w3) :
    Ext w own (addOwn (addOwn own b (.on slot)) s .imm) ∧ DomAt w3 h (addOwn (addOwn own b (.on slot)) s .imm) { S with on := upd S.on slot (some (List.replicate 32 0)) } := by
  have l1 := hS.lt
  have a1 := hS.1
  have hE : Ext w own (addOwn (addOwn own b (.on slot)) s .imm) := fun k hk => by rw [addOwn_ne _ _ (by omega), addOwn_ne _ _ (by omega)]
  have hla := D.lt D.oo
  have hMw : Mod (fun k => k = h.o) w w3 := (Mod.of_below hB).non_to.trans hM (fun _ _ e => e)
  have hs : Step own (addOwn (addOwn own b (.on slot)) s .imm) (fun k => k = h.o) w w3 := ⟨hMw, hE⟩
  refine ⟨hE, D.setOns hs (fun k hk => ?_) ?_⟩
  · have := hM.size
    have := hB.size
    rw [addOwn_ne _ _ (by omega), addOwn_ne _ _ (by omega)]
    exact D.lim k (by omega)
  · have kp : ∀ k, k < w2.heap.size → w.heap.size ≤ k → w3.heap[k]? = w2.heap[k]? := fun k h1 h2 => hM.block k h1 (by omega)
    refine FMap.set hf hm3 ⟨s, b, rfl, hS.move (kp s (by omega) (by omega)) (kp b (by omega) (by omega)), ?_, ?_⟩ (fun j v x _ hr => onR_step hs (one_ne D.oo (by simp)) (one_ne D.oo (by simp)) hr)
    · rw [addOwn_ne _ _ (by omega), addOwn_same]
    · rw [addOwn_same]
/-- Blocks from A to B are fixed ones from now on. -/
def immOwn (own : Own') (A B : Nat) : Own' := fun k => if A ≤ k ∧ k < B then some .imm else own k
theorem immOwn_old (own : Own') {A B k : Nat} (h : k < A) : immOwn own A B k = own k := by unfold immOwn; rw [if_neg (by omega)]
theorem immOwn_new (own : Own') {A B k : Nat} (h : A ≤ k ∧ k < B) : immOwn own A B k = some .imm := by unfold immOwn; rw [if_pos h]
theorem immOwn_out (own : Own') {A B k : Nat} (h : B ≤ k) : immOwn own A B k = own k := by unfold immOwn; rw [if_neg (by omega)]
/-- nodes[slot] is a new list. -/
theorem DomAt.newNode {w w2 w3 : World} {h : Hdr} {own : Own'} {S : St} (D : DomAt w h own S) {slot : Int} {v : Value} {l : List Lab} (hB : Below w.heap.size w w2) (hv : Labs w2 (fun k => w.heap.size ≤ k) v l) {m : List (Int × Value)} (hf : ∀ k, OptR (nodeR own w k) (aget m k) (S.nodes k))
    (hm3 : MapAt (Value.int .i64) w3 h.n (aset m slot v)) (hM : Mod (fun k => k = h.n) w2 w3) :
    Ext w own (immOwn own w.heap.size w2.heap.size) ∧ DomAt w3 h (immOwn own w.heap.size w2.heap.size) { S with nodes := upd S.nodes slot (some l) } := by
  have hE : Ext w own (immOwn own w.heap.size w2.heap.size) := fun k hk => immOwn_old own hk
  have hla := D.lt D.on_
  have hMw : Mod (fun k => k = h.n) w w3 := (Mod.of_below hB).non_to.trans hM (fun _ _ e => e)
  have hs : Step own (immOwn own w.heap.size w2.heap.size) (fun k => k = h.n) w w3 := ⟨hMw, hE⟩
  refine ⟨hE, D.setNodes hs (fun k hk => ?_) ?_⟩
  · have := hM.size
    have := hB.size
    rw [immOwn_out own (by omega)]
    exact D.lim k (by omega)
  · refine FMap.set hf hm3 ?_ (fun j v x _ hr => nodeR_step hs (one_ne D.on_ (by simp)) hr)
    exact SlK.mono labOk (SlK.move labOk (SlK.bnd labOk hv) (w' := w3) (fun k hk => hM.block k hk.2 (by have := hk.1; omega))) (fun k hk => immOwn_new own hk)
/-- guests[pod] is a new one. -/
theorem DomAt.newGuest {w w2 w3 : World} {h : Hdr} {own : Own'} {S : St} (D : DomAt w h own S) {pod nd : Int} {v : Value} {l : List Lab} (hB : Below w.heap.size w w2) (hv : Labs w2 (fun k => w.heap.size ≤ k) v l) {m : List (Int × Value)} (hf : ∀ k, OptR (guestR own w k) (aget m k) (S.guests k))
    (hm3 : MapAt (Value.int .i64) w3 h.g (aset m pod (.agg #[v, .int .i64 nd]))) (hM : Mod (fun k => k = h.g) w2 w3) :
    Ext w own (immOwn own w.heap.size w2.heap.size) ∧ DomAt w3 h (immOwn own w.heap.size w2.heap.size) { S with guests := upd S.guests pod (some (l, nd)) } := by
  have hE : Ext w own (immOwn own w.heap.size w2.heap.size) := fun k hk => immOwn_old own hk
  have hla := D.lt D.og
  have hMw : Mod (fun k => k = h.g) w w3 := (Mod.of_below hB).non_to.trans hM (fun _ _ e => e)
  have hs : Step own (immOwn own w.heap.size w2.heap.size) (fun k => k = h.g) w w3 := ⟨hMw, hE⟩
  refine ⟨hE, D.setGuests hs (fun k hk => ?_) ?_⟩
  · have := hM.size
    have := hB.size
    rw [immOwn_out own (by omega)]
    exact D.lim k (by omega)
  · refine FMap.set hf hm3 ⟨v, rfl, ?_⟩ (fun j v x _ hr => guestR_step hs (one_ne D.og (by simp)) hr)
    exact SlK.mono labOk (SlK.move labOk (SlK.bnd labOk hv) (w' := w3) (fun k hk => hM.block k hk.2 (by have := hk.1; omega))) (fun k hk => immOwn_new own hk)
end Go.Proofs.YtmenipaibjifiaaGreatDoor

namespace Go.Proofs.YtmenipaibjifiaaGreatDoor
open Go.RowKit Go.BigFrame

def marksW (l : List Int) : List Nat := l.foldl (addW 2048) (List.replicate 32 0)
def marksN (l : List Int) : Nat := if l = [] then 0 else 2048
def marksS (l : List Int) : List Nat := if l = [] then [] else marksW l

set_option maxRecDepth 100000 in
set_option maxHeartbeats 4000000 in
theorem marks_k (R : Ending → World → Prop) (w : World) (ok : Nat → Prop) (v : Value) (l : List Int) (hok : ∀ k, ok k → k < w.heap.size) (hx : SlK intsK 1 w ok v l) (hl : l.length ≤ 1073741824)
    (hR : ∀ v' w', Below w.heap.size w w' → SetP w' (fun k => w.heap.size ≤ k ∧ k < w'.heap.size) v' (marksN l) (marksS l) → R (.returned v') w') :
    Calls Tryz.prog 27 #[v] w R := by
  have HR := Lib.hid hR
  clear hR
  have HX := Lib.hid hx
  obtain ⟨A, c, e, hlc, _⟩ := hx.form
  subst e
  by_cases h0 : l = []
  · have hv := HR.out (.pointer none) w (Below.refl _ _) (.inl ⟨rfl, by unfold marksN; rw [if_pos h0], by unfold marksS; rw [if_pos h0]⟩)
    subst h0
    clear hx
    go_enter Tryz.func27, Tryz.ntmps27
    go_wp2_with fail
    exact hv
  · have hp : 0 < l.length := List.length_pos_iff.2 h0
    have hne : ((l.length : Int) == 0) = false := by simp; exact h0
    have HN := Lib.hid h0
    have hOK := Lib.hid hok
    clear h0 hx hok
    go_enter Tryz.func27, Tryz.ntmps27
    go_wp2_with fail
    refine bnew_k _ _ 2048 (by decide) ?_
    intro s b w1 g1 g2 g3 hS1
    have HG1 := Lib.hid g1
    have HS1 := Lib.hid hS1
    have hsb := hS1.lt
    clear g1 hS1
    go_wp2_with fail
    go_loopw [5] (fun i wr => ∃ k : Nat, k ≤ l.length ∧ i = .int .i64 k ∧ Mod (fun j => j = b) w1 wr ∧ SetIn wr s b 2048 ((l.take k).foldl (addW 2048) (List.replicate 32 0))) (fun i _ => l.length - (intOf i).toNat)
    case atStart => exact ⟨0, Nat.zero_le _, rfl, Mod.refl _ _, HS1.out⟩
    case round =>
      obtain ⟨k, hk, rfl, hM, hSr⟩ := hrel
      have hBr : Below w.heap.size w wr := HG1.out.trans (hM.below (B := w.heap.size) HG1.out.size (fun j e => by rw [e]; exact g3))
      by_cases hkl : k < l.length
      · have hxr := HX.out.below intOk hBr hOK.out
        obtain ⟨b3, off, c', he, _, _, hbk, hbl, hce⟩ := hxr.addr hp
        simp only [Value.slice.injEq] at he
        obtain ⟨rfl, -, rfl⟩ := he
        obtain ⟨cs, hcs, hcl, hcc⟩ := hce k hkl
        have hcx := hcc 0 (.int .i64 (l[k]'hkl)) (by cases hcs; rfl)
        simp only [Nat.mul_one, Nat.add_zero] at hcx
        have e1 : (l.take (k + 1)).foldl (addW 2048) (List.replicate 32 0) = addW 2048 ((l.take k).foldl (addW 2048) (List.replicate 32 0)) (l[k]'hkl) := by
          rw [List.take_succ_eq_append_getElem hkl, List.foldl_append]; rfl
        have HE1 := Lib.hid e1
        have HM := Lib.hid hM
        have HSr := Lib.hid hSr
        clear e1 hM hSr hBr hxr hce hcc hcs hcl
        go_wp2_with fail
        refine add_k _ _ s b 2048 _ (l[k]'hkl) HSr.out ?_
        intro vb w4 hM4 hS4
        have HM4 := Lib.hid hM4
        have HS4 := Lib.hid hS4
        clear hM4 hS4
        go_wp2_with fail
        go_roundw
        case rel => exact ⟨k + 1, by omega, by go_num, HM.out.seq HM4.out, by rw [HE1.out]; exact HS4.out⟩
        case measure => simp [intOf]; omega
      · obtain rfl : k = l.length := by omega
        rw [List.take_length] at hSr
        have hlt := hSr.lt
        have hv := HR.out (.pointer (some ⟨s, 0, none⟩)) wr hBr (.inr ⟨s, b, rfl, by unfold marksN marksS; rw [if_neg HN.out, if_neg HN.out]; exact hSr, ⟨g2, hlt.1⟩, ⟨g3, hlt.2⟩⟩)
        clear hSr hBr hM hlt
        go_wp2_with fail
        exact hv
theorem list_at_ne {l r : List Int} {k : Nat} (h1 : k < l.length) (h2 : k < r.length) (h : l[k]'h1 ≠ r[k]'h2) : l ≠ r := fun e => by subst e; exact h rfl
set_option maxRecDepth 100000 in
set_option maxHeartbeats 4000000 in
theorem membersL_k (R : Ending → World → Prop) (w : World) (ok ok2 : Nat → Prop) (vs vw : Value) (n : Nat) (ws : List Nat) (want : List Int) (size : Int) (hok : ∀ k, ok k → k < w.heap.size) (hok2 : ∀ k, ok2 k → k < w.heap.size) (hS : SetP w ok vs n ws) (hn : n % 64 = 0) (hx : SlK intsK 1 w ok2 vw want) (hl : want.length ≤ 1073741824)
    (hR : ∀ w', Below w.heap.size w w' → R (.returned (.bool (decide ((n : Int) = size) && decide (natI (mems n ws) = want)))) w') :
    Calls Tryz.prog 49 #[vs, vw, .int .i64 size] w R := by
  have HR := Lib.hid hR
  have HX := Lib.hid hx
  have HS := Lib.hid hS
  have hOK := Lib.hid hok
  have hOK2 := Lib.hid hok2
  obtain ⟨A, c, e, hlc, _⟩ := hx.form
  subst e
  clear hR hx hS hok hok2
  have hml := mems_length_le n ws
  have hnl := HS.out.le
  go_enter Tryz.func49, Tryz.ntmps49
  go_wp2_with fail
  refine members_p _ _ ok vs n ws hOK.out HS.out hn ?_
  intro vm w1 g1 hm
  obtain ⟨A2, c2, e2, hlc2, _⟩ := hm.form
  subst e2
  have hnn : (natI (mems n ws)).length ≤ 65536 := by simp [natI]; omega
  obtain ⟨ms, hms⟩ : ∃ ms, natI (mems n ws) = ms := ⟨_, rfl⟩
  rw [hms] at hm hnn HR ⊢
  have HG1 := Lib.hid g1
  have HMm := Lib.hid (hm.bnd intOk)
  have HXr := Lib.hid (HX.out.below intOk g1 hOK2.out)
  have HS1 := Lib.hid (HS.out.move (w' := w1) (fun k hk _ => g1.block k (hOK.out k hk)) (fun _ h _ => h))
  clear g1 hm hms hlc2
  go_wp2_with fail
  refine size_p _ _ ok vs n ws HS1.out ?_
  by_cases hz : (n : Int) = size
  · have q1 : ((n : Int) == size) = true := by simpa using hz
    have q1' : (size == size) = true := by simp
    by_cases hl2 : ms.length = want.length
    · have q2 : ((ms.length : Int) == (want.length : Int)) = true := by rw [hl2]; simp
      have HZ := Lib.hid hz
      have HL2 := Lib.hid hl2
      clear hz hl2
      go_wp2_with fail
      go_loopw [8] (fun i wr => ∃ k : Nat, k ≤ ms.length ∧ i = .int .i64 k ∧ Below w1.heap.size w1 wr ∧ ms.take k = want.take k) (fun i _ => ms.length - (intOf i).toNat)
      case atStart => exact ⟨0, Nat.zero_le _, rfl, Below.refl _ _, rfl⟩
      case round =>
        obtain ⟨k, hk, rfl, hB, htk⟩ := hrel
        by_cases hkl : k < ms.length
        · have hkw : k < want.length := by have := HL2.out; omega
          have hmr := HMm.out.below intOk hB (fun j hj => hj.2)
          have hxr := HXr.out.below intOk hB (fun j hj => Nat.lt_of_lt_of_le (hOK2.out j hj) HG1.out.size)
          obtain ⟨b3, off, c', he, _, _, hbk, hbl, hce⟩ := hmr.addr (by omega)
          simp only [Value.slice.injEq] at he
          obtain ⟨rfl, -, rfl⟩ := he
          obtain ⟨cs, hcs, hcl, hcc⟩ := hce k hkl
          have hcx := hcc 0 (.int .i64 (ms[k]'hkl)) (by cases hcs; rfl)
          simp only [Nat.mul_one, Nat.add_zero] at hcx
          obtain ⟨b4, off4, c4', he4, _, _, hbk4, hbl4, hce4⟩ := hxr.addr (by omega)
          simp only [Value.slice.injEq] at he4
          obtain ⟨rfl, -, rfl⟩ := he4
          obtain ⟨cs4, hcs4, hcl4, hcc4⟩ := hce4 k hkw
          have hcy := hcc4 0 (.int .i64 (want[k]'hkw)) (by cases hcs4; rfl)
          simp only [Nat.mul_one, Nat.add_zero] at hcy
          have HB := Lib.hid hB
          have HTK := Lib.hid htk
          clear hmr hxr hce hcc hcs hcl hce4 hcc4 hcs4 hcl4 hB htk
          by_cases hne : (ms[k]'hkl) = want[k]'hkw
          · have q3 : ((ms[k]'hkl) == (want[k]'hkw)) = true := by simpa using hne
            have HNE := Lib.hid hne
            clear hne
            go_wp2_with fail
            go_region
            all_goals go_wp2
            all_goals
              go_roundw
              case rel => exact ⟨k + 1, by omega, by go_num, HB.out.drew, by rw [List.take_succ_eq_append_getElem hkl, List.take_succ_eq_append_getElem hkw, HTK.out, HNE.out]⟩
              case measure => simp [intOf]; omega
          · have q3 : ((ms[k]'hkl) == (want[k]'hkw)) = false := by simpa using hne
            have hd : decide (ms = want) = false := decide_eq_false (fun e => hne (by subst e; rfl))
            have hv0 := fun w9 (h9 : Below w.heap.size w w9) => HR.out w9 h9
            rw [hd, Bool.and_false] at hv0
            have HV0 := Lib.hid hv0
            clear hne hd hv0
            go_wp2_with fail
            go_region
            all_goals go_wp2
            all_goals exact HV0.out _ ((HG1.out.trans (HB.out.mono HG1.out.size)).drew)
        · obtain rfl : k = ms.length := by omega
          rw [List.take_length, HL2.out, List.take_length] at htk
          have hv := HR.out wr (HG1.out.trans (hB.mono HG1.out.size))
          rw [decide_eq_true htk, decide_eq_true HZ.out] at hv
          have hkw2 : decide ((ms.length : Int) < (ms.length : Int)) = false := by simp
          clear htk hB
          go_wp2_with fail
          exact hv
    · have q2 : ((ms.length : Int) == (want.length : Int)) = false := by simp; omega
      have hv := HR.out w1 HG1.out
      rw [show decide (ms = want) = false from decide_eq_false (fun e => hl2 (by rw [e])), Bool.and_false] at hv
      clear hz hl2
      go_wp2_with fail
      all_goals exact hv
  · have q1 : ((n : Int) == size) = false := by simpa using hz
    have hv := HR.out w1 HG1.out
    rw [decide_eq_false hz, Bool.false_and] at hv
    clear hz
    go_wp2_with fail
    exact hv
end Go.Proofs.YtmenipaibjifiaaGreatDoor

namespace Go.Proofs.YtmenipaibjifiaaGreatDoor
open Go.RowKit Go.BigFrame

set_option maxRecDepth 100000 in
set_option maxHeartbeats 4000000 in
theorem slotsNewA_k (R : Ending → World → Prop) (w : World) (hR : ∀ b t w', Below w.heap.size w w' → w'.heap[t]? = some (.cells #[.int .i64 512, .map (some b), .slice none 0 0, .int .i64 0] 324) → R (.returned (.tuple #[.pointer (some ⟨t, 0, none⟩), .int .i64 0])) w') :
    Calls Tryz.prog 129 #[.int .i64 512] w R := by
  have HR := Lib.hid hR
  clear hR
  have hmm := @run_makeMap Tryz.prog
  go_enter Tryz.func129, Tryz.ntmps129
  go_wp2_with fail
  refine HR.out w.heap.size (w.heap.size + 1) _ (Below.alloc (Below.alloc (Below.refl _ _) (Nat.le_refl _) _) (by simp) _) ?_
  have := heap_alloc_new (w.alloc (.map #[] 0)) (.cells #[.int .i64 512, .map (some w.heap.size), .slice none 0 0, .int .i64 0] 324)
  rwa [World.size_alloc] at this
theorem slotsNilC_k (R : Ending → World → Prop) (w : World) (hR : R (.returned (.func (.func 131) #[] #[])) w) : Calls Tryz.prog 46 #[.pointer none] w R := by
  go_enter Tryz.func46, Tryz.ntmps46
  go_wp2_with fail
  exact hR
theorem podSlotsNilC_k (R : Ending → World → Prop) (w : World) (hR : R (.returned (.func (.func 133) #[] #[])) w) : Calls Tryz.prog 47 #[.pointer none] w R := by
  go_enter Tryz.func47, Tryz.ntmps47
  go_wp2_with fail
  exact hR
set_option maxRecDepth 100000 in
set_option maxHeartbeats 4000000 in
theorem slotsNewB_k (R : Ending → World → Prop) (w : World) (hR : ∀ b t w', Below w.heap.size w w' → w'.heap[t]? = some (.cells #[.int .i64 2048, .map (some b), .slice none 0 0, .int .i64 0] 327) → R (.returned (.tuple #[.pointer (some ⟨t, 0, none⟩), .int .i64 0])) w') :
    Calls Tryz.prog 130 #[.int .i64 2048] w R := by
  have HR := Lib.hid hR
  clear hR
  have hmm := @run_makeMap Tryz.prog
  go_enter Tryz.func130, Tryz.ntmps130
  go_wp2_with fail
  refine HR.out w.heap.size (w.heap.size + 1) _ (Below.alloc (Below.alloc (Below.refl _ _) (Nat.le_refl _) _) (by simp) _) ?_
  have := heap_alloc_new (w.alloc (.map #[] 0)) (.cells #[.int .i64 2048, .map (some w.heap.size), .slice none 0 0, .int .i64 0] 327)
  rwa [World.size_alloc] at this
/-- A new cluster: its two tables have no rows. -/
def CluNew (w : World) (c : Nat) : Prop := ∃ b1 b2 t1 t2 m1 m2, w.heap[c]? = some (.cells #[.map (some b1), .map (some b2), .pointer (some ⟨t1, 0, none⟩), .pointer (some ⟨t2, 0, none⟩)] 252) ∧
  w.heap[t1]? = some (.cells #[.int .i64 512, .map (some m1), .slice none 0 0, .int .i64 0] 324) ∧ w.heap[t2]? = some (.cells #[.int .i64 2048, .map (some m2), .slice none 0 0, .int .i64 0] 327)
theorem CluNew.below {w w' : World} {c : Nat} (h : CluNew w c) (hb : Below w.heap.size w w') : CluNew w' c := by
  obtain ⟨b1, b2, t1, t2, m1, m2, h1, h2, h3⟩ := h
  have kp : ∀ {k : Nat} {o : Obj}, w.heap[k]? = some o → w'.heap[k]? = some o := fun {k o} h => (hb.block k (Array.getElem?_eq_some_iff.1 h).1).trans h
  exact ⟨b1, b2, t1, t2, m1, m2, kp h1, kp h2, kp h3⟩
set_option maxRecDepth 100000 in
set_option maxHeartbeats 4000000 in
theorem clusterNew_k (R : Ending → World → Prop) (w : World) (hR : ∀ c w', Below w.heap.size w w' → CluNew w' c → R (.returned (.pointer (some ⟨c, 0, none⟩))) w') :
    Calls Tryz.prog 44 #[] w R := by
  have HR := Lib.hid hR
  clear hR
  have hmm := @run_makeMap Tryz.prog
  go_enter Tryz.func44, Tryz.ntmps44
  go_wp2_with fail
  refine slotsNewA_k _ _ ?_
  intro m1 t1 w1 g1 h1
  have HG1 := Lib.hid g1
  have HT1 := Lib.hid h1
  clear g1 h1
  go_wp2_with fail
  refine slotsNewB_k _ _ ?_
  intro m2 t2 w2 g2 h2
  have HG2 := Lib.hid g2
  have HT2 := Lib.hid h2
  clear g2 h2
  go_wp2_with fail
  have hb := HG1.out.trans (HG2.out.mono HG1.out.size)
  have k1 := (HG2.out.block t1 (Array.getElem?_eq_some_iff.1 HT1.out).1).trans HT1.out
  refine HR.out (w2.heap.size + 2) _ (Below.alloc (Below.alloc (Below.alloc hb hb.size _) (by have := hb.size; simp; omega) _) (by have := hb.size; simp; omega) _) ⟨w2.heap.size, w2.heap.size + 1, t1, t2, m1, m2, ?_, heap_keep (heap_keep (heap_keep k1 _) _) _, heap_keep (heap_keep (heap_keep HT2.out _) _) _⟩
  have := heap_alloc_new ((w2.alloc (.map #[] 0)).alloc (.map #[] 0)) (.cells #[.map (some w2.heap.size), .map (some (w2.heap.size + 1)), .pointer (some ⟨t1, 0, none⟩), .pointer (some ⟨t2, 0, none⟩)] 252)
  rw [World.size_alloc, World.size_alloc] at this
  exact this
end Go.Proofs.YtmenipaibjifiaaGreatDoor
