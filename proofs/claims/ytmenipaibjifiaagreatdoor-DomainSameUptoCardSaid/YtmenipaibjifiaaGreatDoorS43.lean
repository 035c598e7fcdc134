/-
domain.Same of any two, nil ones too.
berthlaw09.same: two domains are the same just as is said.
-/
import Derived.Test.YtmenipaibjifiaaGreatDoorS25
import Derived.Test.YtmenipaibjifiaaGreatDoorS42
import Derived.Deep.RegionHeld3
import Derived.Test.YtmenipaibjifiaaGreatDoorS24
set_option linter.unusedVariables false
set_option linter.unusedSimpArgs false
namespace Go.Proofs.YtmenipaibjifiaaGreatDoor
open Go.RowKit Go.BigFrame

/-- The lists of labels that are kept are short. -/
def ShortS (S : St) : Prop := (∀ k l, S.nodes k = some l → l.length ≤ 1073741824) ∧ ∀ k p, S.guests k = some p → p.1.length ≤ 1073741824
theorem ShortS.empty : ShortS St.empty := ⟨fun _ _ h => (by cases h), fun _ _ h => (by cases h)⟩
theorem ShortS.of {d : RDom} {S : St} (T : Tells d S) (F : Fit d) : ShortS S := by
  constructor
  · intro k l h
    rw [T.nodes] at h
    cases e : rNodeAt d k with
    | none => rw [e] at h; cases h
    | some x =>
      rw [e] at h
      have := (F.nl x (T.nodeAt e).1).1
      rw [← Option.some.inj h]
      simp only at this ⊢
      omega
  · intro k p h
    rw [T.pods] at h
    cases e : rPodAt d k with
    | none => rw [e] at h; cases h
    | some x =>
      rw [e] at h
      have := F.pl x (T.podAt e).1
      rw [← Option.some.inj h]
      simp only at this ⊢
      omega
/-- What domain.Same says. -/
def sameQ (S T : St) : Prop := (∀ k, S.nodes k = T.nodes k) ∧ ∀ k, S.guests k = T.guests k
theorem DomAt.ln {w : World} {h : Hdr} {own : Own'} {S : St} (D : DomAt w h own S) : FMap (Value.int .i64) w h.n (fun _ v l => Labs w (fun k => k < w.heap.size) v l) S.nodes :=
  D.fn.move rfl (fun _ _ _ hl => SlK.mono labOk (SlK.bnd labOk hl) (fun k hk => hk.2))
theorem DomAt.lg {w : World} {h : Hdr} {own : Own'} {S : St} (D : DomAt w h own S) : FMap (Value.int .i64) w h.g (fun _ v l => ∃ u, v = .agg #[u, .int .i64 l.2] ∧ Labs w (fun k => k < w.heap.size) u l.1) S.guests :=
  D.fg.move rfl (fun _ _ _ hl => by
    obtain ⟨u, e, hu⟩ := hl
    exact ⟨u, e, SlK.mono labOk (SlK.bnd labOk hu) (fun k hk => hk.2)⟩)
theorem eqfA_q (R : Ending → World → Prop) (w : World) (ha hb : Hdr) (owna ownb : Own') (S T : St) (DA : DomAt w ha owna S) (DB : DomAt w hb ownb T) (zS : ShortS S) (zT : ShortS T) (q : Bool) (hq : q = true ↔ ∀ k, S.nodes k = T.nodes k)
    (hR : ∀ w', Below w.heap.size w w' → R (.returned (.bool q)) w') :
    Calls Tryz.prog 70 #[.map (some ha.n), .map (some hb.n), .func (.func 71) #[] #[]] w R :=
  eqfA_g R w (fun k => k < w.heap.size) ha.n hb.n S.nodes T.nodes DA.ln DB.ln (fun _ h => h) zS.1 zT.1 (fun q' w' g h => by
    obtain rfl : q' = q := by
      cases q' <;> cases q <;> simp_all
    exact hR w' g)
theorem eqfB_q (R : Ending → World → Prop) (w : World) (ha hb : Hdr) (owna ownb : Own') (S T : St) (DA : DomAt w ha owna S) (DB : DomAt w hb ownb T) (zS : ShortS S) (zT : ShortS T) (q : Bool) (hq : q = true ↔ ∀ k, S.guests k = T.guests k)
    (hR : ∀ w', Below w.heap.size w w' → R (.returned (.bool q)) w') :
    Calls Tryz.prog 72 #[.map (some ha.g), .map (some hb.g), .func (.func 73) #[] #[]] w R :=
  eqfB_g R w (fun k => k < w.heap.size) ha.g hb.g S.guests T.guests DA.lg DB.lg (fun _ h => h) zS.2 zT.2 (fun q' w' g h => by
    obtain rfl : q' = q := by
      cases q' <;> cases q <;> simp_all
    exact hR w' g)
/-- The Domains at an argument: S; nil: an empty one. -/
def DomV (w : World) (v : Value) (S : St) : Prop := (∃ h own, v = .pointer (some ⟨h.d, 0, none⟩) ∧ DomAt w h own S) ∨ (v = .pointer none ∧ S = St.empty)
theorem DomV.below {w w' : World} {v : Value} {S : St} (h : DomV w v S) (hb : Below w.heap.size w w') : DomV w' v S := by
  rcases h with ⟨h, own, e, D⟩ | h
  · exact .inl ⟨h, own, e, D.below hb⟩
  · exact .inr h
set_option maxRecDepth 100000 in
set_option maxHeartbeats 8000000 in
theorem same_pp (R : Ending → World → Prop) (w : World) (S T : St) (ha : Hdr) (owna : Own') (DA0 : DomAt w ha owna S) (hb : Hdr) (ownb : Own') (DB0 : DomAt w hb ownb T) (zS : ShortS S) (zT : ShortS T) (hR : ∀ q w', Below w.heap.size w w' → (q = true ↔ sameQ S T) → R (.returned (.bool q)) w') :
    Calls Tryz.prog 17 #[.pointer (some ⟨ha.d, 0, none⟩), .pointer (some ⟨hb.d, 0, none⟩)] w R := by
  have HR := Lib.hid hR
  obtain ⟨q1, hq1⟩ : ∃ q : Bool, q = true ↔ ∀ k, S.nodes k = T.nodes k := by
    by_cases h : ∀ k, S.nodes k = T.nodes k
    · exact ⟨true, by simpa using h⟩
    · exact ⟨false, by simpa using h⟩
  obtain ⟨q2, hq2⟩ : ∃ q : Bool, q = true ↔ ∀ k, S.guests k = T.guests k := by
    by_cases h : ∀ k, S.guests k = T.guests k
    · exact ⟨true, by simpa using h⟩
    · exact ⟨false, by simpa using h⟩
  have HQ1 := Lib.hid hq1
  have HQB := Lib.hid hq2
  have HZS := Lib.hid zS
  have HZT := Lib.hid zT
  clear hR hq1 hq2 zS zT
  have DA := Lib.hid DA0
  clear DA0
  have DB := Lib.hid DB0
  clear DB0
  go_enter Tryz.func17, Tryz.ntmps17
  have HB := Lib.hid (Below.refl w.heap.size w)
  have x1 : w.cell? ⟨ha.d, 0, none⟩ = some (.map (some ha.n)) := cell_at DA.out.hd rfl
  have x2 : w.cell? ⟨hb.d, 0, none⟩ = some (.map (some hb.n)) := cell_at DB.out.hd rfl
  have x3 : w.cell? ⟨ha.d, 1, none⟩ = some (.map (some ha.g)) := cell_at DA.out.hd rfl
  have x4 : w.cell? ⟨hb.d, 1, none⟩ = some (.map (some hb.g)) := cell_at DB.out.hd rfl
  have HK := Lib.hid (show ∀ w', Below w.heap.size w w' → Below w.heap.size w w' ∧ w'.cell? ⟨ha.d, 0, none⟩ = some (.map (some ha.n)) ∧ w'.cell? ⟨hb.d, 0, none⟩ = some (.map (some hb.n)) ∧ w'.cell? ⟨ha.d, 1, none⟩ = some (.map (some ha.g)) ∧ w'.cell? ⟨hb.d, 1, none⟩ = some (.map (some hb.g)) from
    fun w' hw => ⟨hw, (Mod.of_below hw).cell' x1 (fun h => h), (Mod.of_below hw).cell' x2 (fun h => h), (Mod.of_below hw).cell' x3 (fun h => h), (Mod.of_below hw).cell' x4 (fun h => h)⟩)
  clear x1 x2 x3 x4
  have YA := Lib.hid (Below.refl w.heap.size w).drew
  have DA2 := Lib.hid (DA.out.below YA.out)
  have DB2 := Lib.hid (DB.out.below YA.out)
  cases q1 with
  | false =>
    have HV := Lib.hid (show ∀ w', Below w.heap.size w w' → R (.returned (.bool false)) w' from fun w' g => HR.out false w' (HB.out.trans (g.mono HB.out.size)) ⟨fun h => (by cases h), fun h => HQ1.out.2 h.1⟩)
    go_wp2_with fail
    refine wp_region_held_drew (S := fun w' => Below w.heap.size w w' ∧ w'.cell? ⟨ha.d, 0, none⟩ = some (.map (some ha.n)) ∧ w'.cell? ⟨hb.d, 0, none⟩ = some (.map (some hb.n)) ∧ w'.cell? ⟨ha.d, 1, none⟩ = some (.map (some ha.g)) ∧ w'.cell? ⟨hb.d, 1, none⟩ = some (.map (some hb.g))) (by kernel_rfl) (HK.out _ YA.out) (fun hHeld => ?_)
    refine' wpAnyH_take (i := 0) (v := _) (List.getElem?_toArray.trans rfl) (by kernel_rfl) (by kernel_rfl) (by kernel_rfl) (fun _ _ _ h => h) (Or.inl ⟨by rfl, ?y0⟩) hHeld ?r0
    case y0 =>
      intro w hSw
      try dsimp only at hSw
      go_simp
      try with_reducible rfl
    try simp only [Act.put, List.setIfInBounds_toArray, List.set_cons_zero, List.set_cons_succ]
    refine' wpAnyH_take (i := 1) (v := _) (List.getElem?_toArray.trans rfl) (by kernel_rfl) (by kernel_rfl) (by kernel_rfl) (fun _ _ _ h => h) (Or.inl ⟨by rfl, ?y1⟩) hHeld ?r1
    case y1 =>
      intro w hSw
      try dsimp only at hSw
      go_simp
      try with_reducible rfl
    try simp only [Act.put, List.setIfInBounds_toArray, List.set_cons_zero, List.set_cons_succ]
    refine' wpAnyH_take (i := 2) (v := _) (List.getElem?_toArray.trans rfl) (by kernel_rfl) (by kernel_rfl) (by kernel_rfl) (fun _ _ _ h => h) (Or.inl ⟨by rfl, ?y2⟩) hHeld ?r2
    case y2 =>
      intro w hSw
      try dsimp only at hSw
      go_simp
      try with_reducible rfl
    try simp only [Act.put, List.setIfInBounds_toArray, List.set_cons_zero, List.set_cons_succ]
    refine' wpAnyH_take (i := 3) (v := _) (List.getElem?_toArray.trans rfl) (by kernel_rfl) (by kernel_rfl) (by kernel_rfl) (fun _ _ _ h => h) (Or.inl ⟨by rfl, ?y3⟩) hHeld ?r3
    case y3 =>
      intro w hSw
      try dsimp only at hSw
      go_simp
      try with_reducible rfl
    try simp only [Act.put, List.setIfInBounds_toArray, List.set_cons_zero, List.set_cons_succ]
    refine' wpAnyH_take (i := 4) (v := _) (List.getElem?_toArray.trans rfl) (by kernel_rfl) (by kernel_rfl) (by kernel_rfl) (fun _ _ _ h => h) (Or.inl ⟨by rfl, ?y4⟩) hHeld ?r4
    case y4 =>
      intro w hSw
      try dsimp only at hSw
      go_simp
      try with_reducible rfl
    try simp only [Act.put, List.setIfInBounds_toArray, List.set_cons_zero, List.set_cons_succ]
    refine' wpAnyH_take (i := 5) (v := _) (List.getElem?_toArray.trans rfl) (by kernel_rfl) (by kernel_rfl) (by kernel_rfl) (fun _ _ _ h => h) (Or.inl ⟨by rfl, ?y5⟩) hHeld ?r5
    case y5 =>
      intro w hSw
      try dsimp only at hSw
      go_simp
      try with_reducible rfl
    try simp only [Act.put, List.setIfInBounds_toArray, List.set_cons_zero, List.set_cons_succ]
    refine' wpAnyH_take (i := 6) (v := _) (List.getElem?_toArray.trans rfl) (by kernel_rfl) (by kernel_rfl) (by kernel_rfl) (fun _ _ _ h => h) (Or.inl ⟨by rfl, ?y6⟩) hHeld ?r6
    case y6 =>
      intro w hSw
      try dsimp only at hSw
      go_simp
      try with_reducible rfl
    try simp only [Act.put, List.setIfInBounds_toArray, List.set_cons_zero, List.set_cons_succ]
    refine' wpAnyH_take (i := 7) (v := _) (List.getElem?_toArray.trans rfl) (by kernel_rfl) (by kernel_rfl) (by kernel_rfl) (fun _ _ _ h => h) (Or.inl ⟨by rfl, ?y7⟩) hHeld ?r7
    case y7 =>
      intro w hSw
      try dsimp only at hSw
      go_simp
      try with_reducible rfl
    try simp only [Act.put, List.setIfInBounds_toArray, List.set_cons_zero, List.set_cons_succ]
    refine wpAnyH_ready (rs := [8]) (by kernel_rfl) (by simp) ?_
    refine AllReadyH.cons rfl (fun K hK => ?_) AllReadyH.nil
    go_simp
    go_at_call 70
    refine eqfA_q _ _ ha hb owna ownb S T DA2.out DB2.out HZS.out HZT.out false HQ1.out ?_
    intro w3 g3
    have y1 : Below w.heap.size w w3 := Below.of_drew g3
    go_wp2_with fail
    refine hK.out _ _ (HK.out _ y1) (fun hHeld => ?_)
    clear hK K
    try simp only [Act.put, List.setIfInBounds_toArray, List.set_cons_zero, List.set_cons_succ]
    refine' wpAnyH_take (i := 9) (v := _) (List.getElem?_toArray.trans rfl) (by kernel_rfl) (by kernel_rfl) (by kernel_rfl) (fun _ _ _ h => h) (Or.inl ⟨by rfl, ?y9⟩) hHeld ?r9
    case y9 =>
      intro w hSw
      try dsimp only at hSw
      go_simp
      try with_reducible rfl
    try simp only [Act.put, List.setIfInBounds_toArray, List.set_cons_zero, List.set_cons_succ]
    refine wpAnyH_take (i := 10) (v := undef) (List.getElem?_toArray.trans rfl) (by kernel_rfl) (by kernel_rfl) (by kernel_rfl) (fun _ _ _ h => h) (Or.inr ⟨by rfl, rfl⟩) hHeld ?_
    try simp only [Act.put, List.setIfInBounds_toArray, List.set_cons_zero, List.set_cons_succ]
    refine wpAnyH_take (i := 11) (v := undef) (List.getElem?_toArray.trans rfl) (by kernel_rfl) (by kernel_rfl) (by kernel_rfl) (fun _ _ _ h => h) (Or.inr ⟨by rfl, rfl⟩) hHeld ?_
    try simp only [Act.put, List.setIfInBounds_toArray, List.set_cons_zero, List.set_cons_succ]
    refine wpAnyH_take (i := 12) (v := undef) (List.getElem?_toArray.trans rfl) (by kernel_rfl) (by kernel_rfl) (by kernel_rfl) (fun _ _ _ h => h) (Or.inr ⟨by rfl, rfl⟩) hHeld ?_
    try simp only [Act.put, List.setIfInBounds_toArray, List.set_cons_zero, List.set_cons_succ]
    refine wpAnyH_take (i := 13) (v := undef) (List.getElem?_toArray.trans rfl) (by kernel_rfl) (by kernel_rfl) (by kernel_rfl) (fun _ _ _ h => h) (Or.inr ⟨by rfl, rfl⟩) hHeld ?_
    try simp only [Act.put, List.setIfInBounds_toArray, List.set_cons_zero, List.set_cons_succ]
    refine wpAnyH_take (i := 14) (v := undef) (List.getElem?_toArray.trans rfl) (by kernel_rfl) (by kernel_rfl) (by kernel_rfl) (fun _ _ _ h => h) (Or.inr ⟨by rfl, rfl⟩) hHeld ?_
    try simp only [Act.put, List.setIfInBounds_toArray, List.set_cons_zero, List.set_cons_succ]
    refine wpAnyH_take (i := 15) (v := undef) (List.getElem?_toArray.trans rfl) (by kernel_rfl) (by kernel_rfl) (by kernel_rfl) (fun _ _ _ h => h) (Or.inr ⟨by rfl, rfl⟩) hHeld ?_
    try simp only [Act.put, List.setIfInBounds_toArray, List.set_cons_zero, List.set_cons_succ]
    refine wpAnyH_take (i := 16) (v := undef) (List.getElem?_toArray.trans rfl) (by kernel_rfl) (by kernel_rfl) (by kernel_rfl) (fun _ _ _ h => h) (Or.inr ⟨by rfl, rfl⟩) hHeld ?_
    try simp only [Act.put, List.setIfInBounds_toArray, List.set_cons_zero, List.set_cons_succ]
    refine wpAnyH_take (i := 17) (v := undef) (List.getElem?_toArray.trans rfl) (by kernel_rfl) (by kernel_rfl) (by kernel_rfl) (fun _ _ _ h => h) (Or.inr ⟨by rfl, rfl⟩) hHeld ?_
    try simp only [Act.put, List.setIfInBounds_toArray, List.set_cons_zero, List.set_cons_succ]
    refine wpAnyH_take (i := 18) (v := undef) (List.getElem?_toArray.trans rfl) (by kernel_rfl) (by kernel_rfl) (by kernel_rfl) (fun _ _ _ h => h) (Or.inr ⟨by rfl, rfl⟩) hHeld ?_
    try simp only [Act.put, List.setIfInBounds_toArray, List.set_cons_zero, List.set_cons_succ]
    refine' wpAnyH_take (i := 19) (v := _) (List.getElem?_toArray.trans rfl) (by kernel_rfl) (by kernel_rfl) (by kernel_rfl) (fun _ _ _ h => h) (Or.inl ⟨by rfl, ?y19⟩) hHeld ?r19
    case y19 =>
      intro w hSw
      try dsimp only at hSw
      go_simp
      try with_reducible rfl
    try simp only [Act.put, List.setIfInBounds_toArray, List.set_cons_zero, List.set_cons_succ]
    refine' wpAnyH_take (i := 20) (v := _) (List.getElem?_toArray.trans rfl) (by kernel_rfl) (by kernel_rfl) (by kernel_rfl) (fun _ _ _ h => h) (Or.inl ⟨by rfl, ?y20⟩) hHeld ?r20
    case y20 =>
      intro w hSw
      try dsimp only at hSw
      go_simp
      try with_reducible rfl
    try simp only [Act.put, List.setIfInBounds_toArray, List.set_cons_zero, List.set_cons_succ]
    refine wpAnyH_done (by kernel_rfl) ?_ _
    have hv := HV.out _ y1
    go_wp2_with fail
    exact hv
  | true =>
    have HALL := Lib.hid (HQ1.out.1 rfl)
    have HQ2 := Lib.hid (show q2 = true ↔ sameQ S T from ⟨fun h => ⟨HQ1.out.1 rfl, HQB.out.1 h⟩, fun h => HQB.out.2 h.2⟩)
    have HV := Lib.hid (show ∀ w', Below w.heap.size w w' → R (.returned (.bool q2)) w' from fun w' g => HR.out q2 w' (HB.out.trans (g.mono HB.out.size)) HQ2.out)
    go_wp2_with fail
    go_region_held3 (fun w' => Below w.heap.size w w' ∧ w'.cell? ⟨ha.d, 0, none⟩ = some (.map (some ha.n)) ∧ w'.cell? ⟨hb.d, 0, none⟩ = some (.map (some hb.n)) ∧ w'.cell? ⟨ha.d, 1, none⟩ = some (.map (some ha.g)) ∧ w'.cell? ⟨hb.d, 1, none⟩ = some (.map (some hb.g)))
      (first
      | exact HK.out _ YA.out
      | exact HK.out _ y2
      | exact HK.out _ y1)
      (first
      | (go_at_call 72; refine eqfB_q _ _ ha hb owna ownb S T (DA.out.below y1) (DB.out.below y1) HZS.out HZT.out q2 HQB.out ?_; intro w4 g4
         have y2 : Below w.heap.size w w4 := y1.trans (g4.mono y1.size))
      | (go_at_call 70; refine eqfA_q _ _ ha hb owna ownb S T DA2.out DB2.out HZS.out HZT.out true ⟨fun _ => HALL.out, fun _ => rfl⟩ ?_; intro w3 g3
         have y1 : Below w.heap.size w w3 := Below.of_drew g3))
    all_goals (
      have hv := HV.out _ y2
      go_wp2_with fail
      exact hv)
set_option maxRecDepth 100000 in
set_option maxHeartbeats 8000000 in
theorem same_np (R : Ending → World → Prop) (w : World) (S T : St) (hb : Hdr) (ownb : Own') (DB0 : DomAt w hb ownb T) (eS : S = St.empty) (zS : ShortS S) (zT : ShortS T) (hR : ∀ q w', Below w.heap.size w w' → (q = true ↔ sameQ S T) → R (.returned (.bool q)) w') :
    Calls Tryz.prog 17 #[.pointer none, .pointer (some ⟨hb.d, 0, none⟩)] w R := by
  have HR := Lib.hid hR
  obtain ⟨q1, hq1⟩ : ∃ q : Bool, q = true ↔ ∀ k, S.nodes k = T.nodes k := by
    by_cases h : ∀ k, S.nodes k = T.nodes k
    · exact ⟨true, by simpa using h⟩
    · exact ⟨false, by simpa using h⟩
  obtain ⟨q2, hq2⟩ : ∃ q : Bool, q = true ↔ ∀ k, S.guests k = T.guests k := by
    by_cases h : ∀ k, S.guests k = T.guests k
    · exact ⟨true, by simpa using h⟩
    · exact ⟨false, by simpa using h⟩
  have HQ1 := Lib.hid hq1
  have HQB := Lib.hid hq2
  have HZS := Lib.hid zS
  have HZT := Lib.hid zT
  clear hR hq1 hq2 zS zT
  have DB := Lib.hid DB0
  clear DB0
  go_enter Tryz.func17, Tryz.ntmps17
  have HB := Lib.hid (Below.refl w.heap.size w)
  go_wp2_with fail
  refine dnew_k _ _ ?_
  intro ha owna w1 g1 d1 _ _
  have DA := Lib.hid (show DomAt w1 ha owna S by rw [eS]; exact d1)
  replace HB := Lib.hid g1
  replace DB := Lib.hid (DB.out.below g1)
  clear g1 d1 eS
  have x1 : w1.cell? ⟨ha.d, 0, none⟩ = some (.map (some ha.n)) := cell_at DA.out.hd rfl
  have x2 : w1.cell? ⟨hb.d, 0, none⟩ = some (.map (some hb.n)) := cell_at DB.out.hd rfl
  have x3 : w1.cell? ⟨ha.d, 1, none⟩ = some (.map (some ha.g)) := cell_at DA.out.hd rfl
  have x4 : w1.cell? ⟨hb.d, 1, none⟩ = some (.map (some hb.g)) := cell_at DB.out.hd rfl
  have HK := Lib.hid (show ∀ w', Below w1.heap.size w1 w' → Below w1.heap.size w1 w' ∧ w'.cell? ⟨ha.d, 0, none⟩ = some (.map (some ha.n)) ∧ w'.cell? ⟨hb.d, 0, none⟩ = some (.map (some hb.n)) ∧ w'.cell? ⟨ha.d, 1, none⟩ = some (.map (some ha.g)) ∧ w'.cell? ⟨hb.d, 1, none⟩ = some (.map (some hb.g)) from
    fun w' hw => ⟨hw, (Mod.of_below hw).cell' x1 (fun h => h), (Mod.of_below hw).cell' x2 (fun h => h), (Mod.of_below hw).cell' x3 (fun h => h), (Mod.of_below hw).cell' x4 (fun h => h)⟩)
  clear x1 x2 x3 x4
  have YA := Lib.hid (Below.refl w1.heap.size w1).drew
  have DA2 := Lib.hid (DA.out.below YA.out)
  have DB2 := Lib.hid (DB.out.below YA.out)
  cases q1 with
  | false =>
    have HV := Lib.hid (show ∀ w', Below w1.heap.size w1 w' → R (.returned (.bool false)) w' from fun w' g => HR.out false w' (HB.out.trans (g.mono HB.out.size)) ⟨fun h => (by cases h), fun h => HQ1.out.2 h.1⟩)
    go_wp2_with fail
    refine wp_region_held_drew (S := fun w' => Below w1.heap.size w1 w' ∧ w'.cell? ⟨ha.d, 0, none⟩ = some (.map (some ha.n)) ∧ w'.cell? ⟨hb.d, 0, none⟩ = some (.map (some hb.n)) ∧ w'.cell? ⟨ha.d, 1, none⟩ = some (.map (some ha.g)) ∧ w'.cell? ⟨hb.d, 1, none⟩ = some (.map (some hb.g))) (by kernel_rfl) (HK.out _ YA.out) (fun hHeld => ?_)
    refine' wpAnyH_take (i := 0) (v := _) (List.getElem?_toArray.trans rfl) (by kernel_rfl) (by kernel_rfl) (by kernel_rfl) (fun _ _ _ h => h) (Or.inl ⟨by rfl, ?y0⟩) hHeld ?r0
    case y0 =>
      intro w hSw
      try dsimp only at hSw
      go_simp
      try with_reducible rfl
    try simp only [Act.put, List.setIfInBounds_toArray, List.set_cons_zero, List.set_cons_succ]
    refine' wpAnyH_take (i := 1) (v := _) (List.getElem?_toArray.trans rfl) (by kernel_rfl) (by kernel_rfl) (by kernel_rfl) (fun _ _ _ h => h) (Or.inl ⟨by rfl, ?y1⟩) hHeld ?r1
    case y1 =>
      intro w hSw
      try dsimp only at hSw
      go_simp
      try with_reducible rfl
    try simp only [Act.put, List.setIfInBounds_toArray, List.set_cons_zero, List.set_cons_succ]
    refine' wpAnyH_take (i := 2) (v := _) (List.getElem?_toArray.trans rfl) (by kernel_rfl) (by kernel_rfl) (by kernel_rfl) (fun _ _ _ h => h) (Or.inl ⟨by rfl, ?y2⟩) hHeld ?r2
    case y2 =>
      intro w hSw
      try dsimp only at hSw
      go_simp
      try with_reducible rfl
    try simp only [Act.put, List.setIfInBounds_toArray, List.set_cons_zero, List.set_cons_succ]
    refine' wpAnyH_take (i := 3) (v := _) (List.getElem?_toArray.trans rfl) (by kernel_rfl) (by kernel_rfl) (by kernel_rfl) (fun _ _ _ h => h) (Or.inl ⟨by rfl, ?y3⟩) hHeld ?r3
    case y3 =>
      intro w hSw
      try dsimp only at hSw
      go_simp
      try with_reducible rfl
    try simp only [Act.put, List.setIfInBounds_toArray, List.set_cons_zero, List.set_cons_succ]
    refine' wpAnyH_take (i := 4) (v := _) (List.getElem?_toArray.trans rfl) (by kernel_rfl) (by kernel_rfl) (by kernel_rfl) (fun _ _ _ h => h) (Or.inl ⟨by rfl, ?y4⟩) hHeld ?r4
    case y4 =>
      intro w hSw
      try dsimp only at hSw
      go_simp
      try with_reducible rfl
    try simp only [Act.put, List.setIfInBounds_toArray, List.set_cons_zero, List.set_cons_succ]
    refine' wpAnyH_take (i := 5) (v := _) (List.getElem?_toArray.trans rfl) (by kernel_rfl) (by kernel_rfl) (by kernel_rfl) (fun _ _ _ h => h) (Or.inl ⟨by rfl, ?y5⟩) hHeld ?r5
    case y5 =>
      intro w hSw
      try dsimp only at hSw
      go_simp
      try with_reducible rfl
    try simp only [Act.put, List.setIfInBounds_toArray, List.set_cons_zero, List.set_cons_succ]
    refine' wpAnyH_take (i := 6) (v := _) (List.getElem?_toArray.trans rfl) (by kernel_rfl) (by kernel_rfl) (by kernel_rfl) (fun _ _ _ h => h) (Or.inl ⟨by rfl, ?y6⟩) hHeld ?r6
    case y6 =>
      intro w hSw
      try dsimp only at hSw
      go_simp
      try with_reducible rfl
    try simp only [Act.put, List.setIfInBounds_toArray, List.set_cons_zero, List.set_cons_succ]
    refine' wpAnyH_take (i := 7) (v := _) (List.getElem?_toArray.trans rfl) (by kernel_rfl) (by kernel_rfl) (by kernel_rfl) (fun _ _ _ h => h) (Or.inl ⟨by rfl, ?y7⟩) hHeld ?r7
    case y7 =>
      intro w hSw
      try dsimp only at hSw
      go_simp
      try with_reducible rfl
    try simp only [Act.put, List.setIfInBounds_toArray, List.set_cons_zero, List.set_cons_succ]
    refine wpAnyH_ready (rs := [8]) (by kernel_rfl) (by simp) ?_
    refine AllReadyH.cons rfl (fun K hK => ?_) AllReadyH.nil
    go_simp
    go_at_call 70
    refine eqfA_q _ _ ha hb owna ownb S T DA2.out DB2.out HZS.out HZT.out false HQ1.out ?_
    intro w3 g3
    have y1 : Below w1.heap.size w1 w3 := Below.of_drew g3
    go_wp2_with fail
    refine hK.out _ _ (HK.out _ y1) (fun hHeld => ?_)
    clear hK K
    try simp only [Act.put, List.setIfInBounds_toArray, List.set_cons_zero, List.set_cons_succ]
    refine' wpAnyH_take (i := 9) (v := _) (List.getElem?_toArray.trans rfl) (by kernel_rfl) (by kernel_rfl) (by kernel_rfl) (fun _ _ _ h => h) (Or.inl ⟨by rfl, ?y9⟩) hHeld ?r9
    case y9 =>
      intro w hSw
      try dsimp only at hSw
      go_simp
      try with_reducible rfl
    try simp only [Act.put, List.setIfInBounds_toArray, List.set_cons_zero, List.set_cons_succ]
    refine wpAnyH_take (i := 10) (v := undef) (List.getElem?_toArray.trans rfl) (by kernel_rfl) (by kernel_rfl) (by kernel_rfl) (fun _ _ _ h => h) (Or.inr ⟨by rfl, rfl⟩) hHeld ?_
    try simp only [Act.put, List.setIfInBounds_toArray, List.set_cons_zero, List.set_cons_succ]
    refine wpAnyH_take (i := 11) (v := undef) (List.getElem?_toArray.trans rfl) (by kernel_rfl) (by kernel_rfl) (by kernel_rfl) (fun _ _ _ h => h) (Or.inr ⟨by rfl, rfl⟩) hHeld ?_
    try simp only [Act.put, List.setIfInBounds_toArray, List.set_cons_zero, List.set_cons_succ]
    refine wpAnyH_take (i := 12) (v := undef) (List.getElem?_toArray.trans rfl) (by kernel_rfl) (by kernel_rfl) (by kernel_rfl) (fun _ _ _ h => h) (Or.inr ⟨by rfl, rfl⟩) hHeld ?_
    try simp only [Act.put, List.setIfInBounds_toArray, List.set_cons_zero, List.set_cons_succ]
    refine wpAnyH_take (i := 13) (v := undef) (List.getElem?_toArray.trans rfl) (by kernel_rfl) (by kernel_rfl) (by kernel_rfl) (fun _ _ _ h => h) (Or.inr ⟨by rfl, rfl⟩) hHeld ?_
    try simp only [Act.put, List.setIfInBounds_toArray, List.set_cons_zero, List.set_cons_succ]
    refine wpAnyH_take (i := 14) (v := undef) (List.getElem?_toArray.trans rfl) (by kernel_rfl) (by kernel_rfl) (by kernel_rfl) (fun _ _ _ h => h) (Or.inr ⟨by rfl, rfl⟩) hHeld ?_
    try simp only [Act.put, List.setIfInBounds_toArray, List.set_cons_zero, List.set_cons_succ]
    refine wpAnyH_take (i := 15) (v := undef) (List.getElem?_toArray.trans rfl) (by kernel_rfl) (by kernel_rfl) (by kernel_rfl) (fun _ _ _ h => h) (Or.inr ⟨by rfl, rfl⟩) hHeld ?_
    try simp only [Act.put, List.setIfInBounds_toArray, List.set_cons_zero, List.set_cons_succ]
    refine wpAnyH_take (i := 16) (v := undef) (List.getElem?_toArray.trans rfl) (by kernel_rfl) (by kernel_rfl) (by kernel_rfl) (fun _ _ _ h => h) (Or.inr ⟨by rfl, rfl⟩) hHeld ?_
    try simp only [Act.put, List.setIfInBounds_toArray, List.set_cons_zero, List.set_cons_succ]
    refine wpAnyH_take (i := 17) (v := undef) (List.getElem?_toArray.trans rfl) (by kernel_rfl) (by kernel_rfl) (by kernel_rfl) (fun _ _ _ h => h) (Or.inr ⟨by rfl, rfl⟩) hHeld ?_
    try simp only [Act.put, List.setIfInBounds_toArray, List.set_cons_zero, List.set_cons_succ]
    refine wpAnyH_take (i := 18) (v := undef) (List.getElem?_toArray.trans rfl) (by kernel_rfl) (by kernel_rfl) (by kernel_rfl) (fun _ _ _ h => h) (Or.inr ⟨by rfl, rfl⟩) hHeld ?_
    try simp only [Act.put, List.setIfInBounds_toArray, List.set_cons_zero, List.set_cons_succ]
    refine' wpAnyH_take (i := 19) (v := _) (List.getElem?_toArray.trans rfl) (by kernel_rfl) (by kernel_rfl) (by kernel_rfl) (fun _ _ _ h => h) (Or.inl ⟨by rfl, ?y19⟩) hHeld ?r19
    case y19 =>
      intro w hSw
      try dsimp only at hSw
      go_simp
      try with_reducible rfl
    try simp only [Act.put, List.setIfInBounds_toArray, List.set_cons_zero, List.set_cons_succ]
    refine' wpAnyH_take (i := 20) (v := _) (List.getElem?_toArray.trans rfl) (by kernel_rfl) (by kernel_rfl) (by kernel_rfl) (fun _ _ _ h => h) (Or.inl ⟨by rfl, ?y20⟩) hHeld ?r20
    case y20 =>
      intro w hSw
      try dsimp only at hSw
      go_simp
      try with_reducible rfl
    try simp only [Act.put, List.setIfInBounds_toArray, List.set_cons_zero, List.set_cons_succ]
    refine wpAnyH_done (by kernel_rfl) ?_ _
    have hv := HV.out _ y1
    go_wp2_with fail
    exact hv
  | true =>
    have HALL := Lib.hid (HQ1.out.1 rfl)
    have HQ2 := Lib.hid (show q2 = true ↔ sameQ S T from ⟨fun h => ⟨HQ1.out.1 rfl, HQB.out.1 h⟩, fun h => HQB.out.2 h.2⟩)
    have HV := Lib.hid (show ∀ w', Below w1.heap.size w1 w' → R (.returned (.bool q2)) w' from fun w' g => HR.out q2 w' (HB.out.trans (g.mono HB.out.size)) HQ2.out)
    go_wp2_with fail
    go_region_held3 (fun w' => Below w1.heap.size w1 w' ∧ w'.cell? ⟨ha.d, 0, none⟩ = some (.map (some ha.n)) ∧ w'.cell? ⟨hb.d, 0, none⟩ = some (.map (some hb.n)) ∧ w'.cell? ⟨ha.d, 1, none⟩ = some (.map (some ha.g)) ∧ w'.cell? ⟨hb.d, 1, none⟩ = some (.map (some hb.g)))
      (first
      | exact HK.out _ YA.out
      | exact HK.out _ y2
      | exact HK.out _ y1)
      (first
      | (go_at_call 72; refine eqfB_q _ _ ha hb owna ownb S T (DA.out.below y1) (DB.out.below y1) HZS.out HZT.out q2 HQB.out ?_; intro w4 g4
         have y2 : Below w1.heap.size w1 w4 := y1.trans (g4.mono y1.size))
      | (go_at_call 70; refine eqfA_q _ _ ha hb owna ownb S T DA2.out DB2.out HZS.out HZT.out true ⟨fun _ => HALL.out, fun _ => rfl⟩ ?_; intro w3 g3
         have y1 : Below w1.heap.size w1 w3 := Below.of_drew g3))
    all_goals (
      have hv := HV.out _ y2
      go_wp2_with fail
      exact hv)
set_option maxRecDepth 100000 in
set_option maxHeartbeats 8000000 in
theorem same_pn (R : Ending → World → Prop) (w : World) (S T : St) (ha : Hdr) (owna : Own') (DA0 : DomAt w ha owna S) (eT : T = St.empty) (zS : ShortS S) (zT : ShortS T) (hR : ∀ q w', Below w.heap.size w w' → (q = true ↔ sameQ S T) → R (.returned (.bool q)) w') :
    Calls Tryz.prog 17 #[.pointer (some ⟨ha.d, 0, none⟩), .pointer none] w R := by
  have HR := Lib.hid hR
  obtain ⟨q1, hq1⟩ : ∃ q : Bool, q = true ↔ ∀ k, S.nodes k = T.nodes k := by
    by_cases h : ∀ k, S.nodes k = T.nodes k
    · exact ⟨true, by simpa using h⟩
    · exact ⟨false, by simpa using h⟩
  obtain ⟨q2, hq2⟩ : ∃ q : Bool, q = true ↔ ∀ k, S.guests k = T.guests k := by
    by_cases h : ∀ k, S.guests k = T.guests k
    · exact ⟨true, by simpa using h⟩
    · exact ⟨false, by simpa using h⟩
  have HQ1 := Lib.hid hq1
  have HQB := Lib.hid hq2
  have HZS := Lib.hid zS
  have HZT := Lib.hid zT
  clear hR hq1 hq2 zS zT
  have DA := Lib.hid DA0
  clear DA0
  go_enter Tryz.func17, Tryz.ntmps17
  have HB := Lib.hid (Below.refl w.heap.size w)
  go_wp2_with fail
  refine dnew_k _ _ ?_
  intro hb ownb w2 g2 d2 _ _
  have DB := Lib.hid (show DomAt w2 hb ownb T by rw [eT]; exact d2)
  replace DA := Lib.hid (DA.out.below g2)
  replace HB := Lib.hid (HB.out.trans (g2.mono HB.out.size))
  clear g2 d2 eT
  have x1 : w2.cell? ⟨ha.d, 0, none⟩ = some (.map (some ha.n)) := cell_at DA.out.hd rfl
  have x2 : w2.cell? ⟨hb.d, 0, none⟩ = some (.map (some hb.n)) := cell_at DB.out.hd rfl
  have x3 : w2.cell? ⟨ha.d, 1, none⟩ = some (.map (some ha.g)) := cell_at DA.out.hd rfl
  have x4 : w2.cell? ⟨hb.d, 1, none⟩ = some (.map (some hb.g)) := cell_at DB.out.hd rfl
  have HK := Lib.hid (show ∀ w', Below w2.heap.size w2 w' → Below w2.heap.size w2 w' ∧ w'.cell? ⟨ha.d, 0, none⟩ = some (.map (some ha.n)) ∧ w'.cell? ⟨hb.d, 0, none⟩ = some (.map (some hb.n)) ∧ w'.cell? ⟨ha.d, 1, none⟩ = some (.map (some ha.g)) ∧ w'.cell? ⟨hb.d, 1, none⟩ = some (.map (some hb.g)) from
    fun w' hw => ⟨hw, (Mod.of_below hw).cell' x1 (fun h => h), (Mod.of_below hw).cell' x2 (fun h => h), (Mod.of_below hw).cell' x3 (fun h => h), (Mod.of_below hw).cell' x4 (fun h => h)⟩)
  clear x1 x2 x3 x4
  have YA := Lib.hid (Below.refl w2.heap.size w2).drew
  have DA2 := Lib.hid (DA.out.below YA.out)
  have DB2 := Lib.hid (DB.out.below YA.out)
  cases q1 with
  | false =>
    have HV := Lib.hid (show ∀ w', Below w2.heap.size w2 w' → R (.returned (.bool false)) w' from fun w' g => HR.out false w' (HB.out.trans (g.mono HB.out.size)) ⟨fun h => (by cases h), fun h => HQ1.out.2 h.1⟩)
    go_wp2_with fail
    refine wp_region_held_drew (S := fun w' => Below w2.heap.size w2 w' ∧ w'.cell? ⟨ha.d, 0, none⟩ = some (.map (some ha.n)) ∧ w'.cell? ⟨hb.d, 0, none⟩ = some (.map (some hb.n)) ∧ w'.cell? ⟨ha.d, 1, none⟩ = some (.map (some ha.g)) ∧ w'.cell? ⟨hb.d, 1, none⟩ = some (.map (some hb.g))) (by kernel_rfl) (HK.out _ YA.out) (fun hHeld => ?_)
    refine' wpAnyH_take (i := 0) (v := _) (List.getElem?_toArray.trans rfl) (by kernel_rfl) (by kernel_rfl) (by kernel_rfl) (fun _ _ _ h => h) (Or.inl ⟨by rfl, ?y0⟩) hHeld ?r0
    case y0 =>
      intro w hSw
      try dsimp only at hSw
      go_simp
      try with_reducible rfl
    try simp only [Act.put, List.setIfInBounds_toArray, List.set_cons_zero, List.set_cons_succ]
    refine' wpAnyH_take (i := 1) (v := _) (List.getElem?_toArray.trans rfl) (by kernel_rfl) (by kernel_rfl) (by kernel_rfl) (fun _ _ _ h => h) (Or.inl ⟨by rfl, ?y1⟩) hHeld ?r1
    case y1 =>
      intro w hSw
      try dsimp only at hSw
      go_simp
      try with_reducible rfl
    try simp only [Act.put, List.setIfInBounds_toArray, List.set_cons_zero, List.set_cons_succ]
    refine' wpAnyH_take (i := 2) (v := _) (List.getElem?_toArray.trans rfl) (by kernel_rfl) (by kernel_rfl) (by kernel_rfl) (fun _ _ _ h => h) (Or.inl ⟨by rfl, ?y2⟩) hHeld ?r2
    case y2 =>
      intro w hSw
      try dsimp only at hSw
      go_simp
      try with_reducible rfl
    try simp only [Act.put, List.setIfInBounds_toArray, List.set_cons_zero, List.set_cons_succ]
    refine' wpAnyH_take (i := 3) (v := _) (List.getElem?_toArray.trans rfl) (by kernel_rfl) (by kernel_rfl) (by kernel_rfl) (fun _ _ _ h => h) (Or.inl ⟨by rfl, ?y3⟩) hHeld ?r3
    case y3 =>
      intro w hSw
      try dsimp only at hSw
      go_simp
      try with_reducible rfl
    try simp only [Act.put, List.setIfInBounds_toArray, List.set_cons_zero, List.set_cons_succ]
    refine' wpAnyH_take (i := 4) (v := _) (List.getElem?_toArray.trans rfl) (by kernel_rfl) (by kernel_rfl) (by kernel_rfl) (fun _ _ _ h => h) (Or.inl ⟨by rfl, ?y4⟩) hHeld ?r4
    case y4 =>
      intro w hSw
      try dsimp only at hSw
      go_simp
      try with_reducible rfl
    try simp only [Act.put, List.setIfInBounds_toArray, List.set_cons_zero, List.set_cons_succ]
    refine' wpAnyH_take (i := 5) (v := _) (List.getElem?_toArray.trans rfl) (by kernel_rfl) (by kernel_rfl) (by kernel_rfl) (fun _ _ _ h => h) (Or.inl ⟨by rfl, ?y5⟩) hHeld ?r5
    case y5 =>
      intro w hSw
      try dsimp only at hSw
      go_simp
      try with_reducible rfl
    try simp only [Act.put, List.setIfInBounds_toArray, List.set_cons_zero, List.set_cons_succ]
    refine' wpAnyH_take (i := 6) (v := _) (List.getElem?_toArray.trans rfl) (by kernel_rfl) (by kernel_rfl) (by kernel_rfl) (fun _ _ _ h => h) (Or.inl ⟨by rfl, ?y6⟩) hHeld ?r6
    case y6 =>
      intro w hSw
      try dsimp only at hSw
      go_simp
      try with_reducible rfl
    try simp only [Act.put, List.setIfInBounds_toArray, List.set_cons_zero, List.set_cons_succ]
    refine' wpAnyH_take (i := 7) (v := _) (List.getElem?_toArray.trans rfl) (by kernel_rfl) (by kernel_rfl) (by kernel_rfl) (fun _ _ _ h => h) (Or.inl ⟨by rfl, ?y7⟩) hHeld ?r7
    case y7 =>
      intro w hSw
      try dsimp only at hSw
      go_simp
      try with_reducible rfl
    try simp only [Act.put, List.setIfInBounds_toArray, List.set_cons_zero, List.set_cons_succ]
    refine wpAnyH_ready (rs := [8]) (by kernel_rfl) (by simp) ?_
    refine AllReadyH.cons rfl (fun K hK => ?_) AllReadyH.nil
    go_simp
    go_at_call 70
    refine eqfA_q _ _ ha hb owna ownb S T DA2.out DB2.out HZS.out HZT.out false HQ1.out ?_
    intro w3 g3
    have y1 : Below w2.heap.size w2 w3 := Below.of_drew g3
    go_wp2_with fail
    refine hK.out _ _ (HK.out _ y1) (fun hHeld => ?_)
    clear hK K
    try simp only [Act.put, List.setIfInBounds_toArray, List.set_cons_zero, List.set_cons_succ]
    refine' wpAnyH_take (i := 9) (v := _) (List.getElem?_toArray.trans rfl) (by kernel_rfl) (by kernel_rfl) (by kernel_rfl) (fun _ _ _ h => h) (Or.inl ⟨by rfl, ?y9⟩) hHeld ?r9
    case y9 =>
      intro w hSw
      try dsimp only at hSw
      go_simp
      try with_reducible rfl
    try simp only [Act.put, List.setIfInBounds_toArray, List.set_cons_zero, List.set_cons_succ]
    refine wpAnyH_take (i := 10) (v := undef) (List.getElem?_toArray.trans rfl) (by kernel_rfl) (by kernel_rfl) (by kernel_rfl) (fun _ _ _ h => h) (Or.inr ⟨by rfl, rfl⟩) hHeld ?_
    try simp only [Act.put, List.setIfInBounds_toArray, List.set_cons_zero, List.set_cons_succ]
    refine wpAnyH_take (i := 11) (v := undef) (List.getElem?_toArray.trans rfl) (by kernel_rfl) (by kernel_rfl) (by kernel_rfl) (fun _ _ _ h => h) (Or.inr ⟨by rfl, rfl⟩) hHeld ?_
    try simp only [Act.put, List.setIfInBounds_toArray, List.set_cons_zero, List.set_cons_succ]
    refine wpAnyH_take (i := 12) (v := undef) (List.getElem?_toArray.trans rfl) (by kernel_rfl) (by kernel_rfl) (by kernel_rfl) (fun _ _ _ h => h) (Or.inr ⟨by rfl, rfl⟩) hHeld ?_
    try simp only [Act.put, List.setIfInBounds_toArray, List.set_cons_zero, List.set_cons_succ]
    refine wpAnyH_take (i := 13) (v := undef) (List.getElem?_toArray.trans rfl) (by kernel_rfl) (by kernel_rfl) (by kernel_rfl) (fun _ _ _ h => h) (Or.inr ⟨by rfl, rfl⟩) hHeld ?_
    try simp only [Act.put, List.setIfInBounds_toArray, List.set_cons_zero, List.set_cons_succ]
    refine wpAnyH_take (i := 14) (v := undef) (List.getElem?_toArray.trans rfl) (by kernel_rfl) (by kernel_rfl) (by kernel_rfl) (fun _ _ _ h => h) (Or.inr ⟨by rfl, rfl⟩) hHeld ?_
    try simp only [Act.put, List.setIfInBounds_toArray, List.set_cons_zero, List.set_cons_succ]
    refine wpAnyH_take (i := 15) (v := undef) (List.getElem?_toArray.trans rfl) (by kernel_rfl) (by kernel_rfl) (by kernel_rfl) (fun _ _ _ h => h) (Or.inr ⟨by rfl, rfl⟩) hHeld ?_
    try simp only [Act.put, List.setIfInBounds_toArray, List.set_cons_zero, List.set_cons_succ]
    refine wpAnyH_take (i := 16) (v := undef) (List.getElem?_toArray.trans rfl) (by kernel_rfl) (by kernel_rfl) (by kernel_rfl) (fun _ _ _ h => h) (Or.inr ⟨by rfl, rfl⟩) hHeld ?_
    try simp only [Act.put, List.setIfInBounds_toArray, List.set_cons_zero, List.set_cons_succ]
    refine wpAnyH_take (i := 17) (v := undef) (List.getElem?_toArray.trans rfl) (by kernel_rfl) (by kernel_rfl) (by kernel_rfl) (fun _ _ _ h => h) (Or.inr ⟨by rfl, rfl⟩) hHeld ?_
    try simp only [Act.put, List.setIfInBounds_toArray, List.set_cons_zero, List.set_cons_succ]
    refine wpAnyH_take (i := 18) (v := undef) (List.getElem?_toArray.trans rfl) (by kernel_rfl) (by kernel_rfl) (by kernel_rfl) (fun _ _ _ h => h) (Or.inr ⟨by rfl, rfl⟩) hHeld ?_
    try simp only [Act.put, List.setIfInBounds_toArray, List.set_cons_zero, List.set_cons_succ]
    refine' wpAnyH_take (i := 19) (v := _) (List.getElem?_toArray.trans rfl) (by kernel_rfl) (by kernel_rfl) (by kernel_rfl) (fun _ _ _ h => h) (Or.inl ⟨by rfl, ?y19⟩) hHeld ?r19
    case y19 =>
      intro w hSw
      try dsimp only at hSw
      go_simp
      try with_reducible rfl
    try simp only [Act.put, List.setIfInBounds_toArray, List.set_cons_zero, List.set_cons_succ]
    refine' wpAnyH_take (i := 20) (v := _) (List.getElem?_toArray.trans rfl) (by kernel_rfl) (by kernel_rfl) (by kernel_rfl) (fun _ _ _ h => h) (Or.inl ⟨by rfl, ?y20⟩) hHeld ?r20
    case y20 =>
      intro w hSw
      try dsimp only at hSw
      go_simp
      try with_reducible rfl
    try simp only [Act.put, List.setIfInBounds_toArray, List.set_cons_zero, List.set_cons_succ]
    refine wpAnyH_done (by kernel_rfl) ?_ _
    have hv := HV.out _ y1
    go_wp2_with fail
    exact hv
  | true =>
    have HALL := Lib.hid (HQ1.out.1 rfl)
    have HQ2 := Lib.hid (show q2 = true ↔ sameQ S T from ⟨fun h => ⟨HQ1.out.1 rfl, HQB.out.1 h⟩, fun h => HQB.out.2 h.2⟩)
    have HV := Lib.hid (show ∀ w', Below w2.heap.size w2 w' → R (.returned (.bool q2)) w' from fun w' g => HR.out q2 w' (HB.out.trans (g.mono HB.out.size)) HQ2.out)
    go_wp2_with fail
    go_region_held3 (fun w' => Below w2.heap.size w2 w' ∧ w'.cell? ⟨ha.d, 0, none⟩ = some (.map (some ha.n)) ∧ w'.cell? ⟨hb.d, 0, none⟩ = some (.map (some hb.n)) ∧ w'.cell? ⟨ha.d, 1, none⟩ = some (.map (some ha.g)) ∧ w'.cell? ⟨hb.d, 1, none⟩ = some (.map (some hb.g)))
      (first
      | exact HK.out _ YA.out
      | exact HK.out _ y2
      | exact HK.out _ y1)
      (first
      | (go_at_call 72; refine eqfB_q _ _ ha hb owna ownb S T (DA.out.below y1) (DB.out.below y1) HZS.out HZT.out q2 HQB.out ?_; intro w4 g4
         have y2 : Below w2.heap.size w2 w4 := y1.trans (g4.mono y1.size))
      | (go_at_call 70; refine eqfA_q _ _ ha hb owna ownb S T DA2.out DB2.out HZS.out HZT.out true ⟨fun _ => HALL.out, fun _ => rfl⟩ ?_; intro w3 g3
         have y1 : Below w2.heap.size w2 w3 := Below.of_drew g3))
    all_goals (
      have hv := HV.out _ y2
      go_wp2_with fail
      exact hv)
set_option maxRecDepth 100000 in
set_option maxHeartbeats 8000000 in
theorem same_nn (R : Ending → World → Prop) (w : World) (S T : St) (eS : S = St.empty) (eT : T = St.empty) (zS : ShortS S) (zT : ShortS T) (hR : ∀ q w', Below w.heap.size w w' → (q = true ↔ sameQ S T) → R (.returned (.bool q)) w') :
    Calls Tryz.prog 17 #[.pointer none, .pointer none] w R := by
  have HR := Lib.hid hR
  obtain ⟨q1, hq1⟩ : ∃ q : Bool, q = true ↔ ∀ k, S.nodes k = T.nodes k := by
    by_cases h : ∀ k, S.nodes k = T.nodes k
    · exact ⟨true, by simpa using h⟩
    · exact ⟨false, by simpa using h⟩
  obtain ⟨q2, hq2⟩ : ∃ q : Bool, q = true ↔ ∀ k, S.guests k = T.guests k := by
    by_cases h : ∀ k, S.guests k = T.guests k
    · exact ⟨true, by simpa using h⟩
    · exact ⟨false, by simpa using h⟩
  have HQ1 := Lib.hid hq1
  have HQB := Lib.hid hq2
  have HZS := Lib.hid zS
  have HZT := Lib.hid zT
  clear hR hq1 hq2 zS zT
  go_enter Tryz.func17, Tryz.ntmps17
  have HB := Lib.hid (Below.refl w.heap.size w)
  go_wp2_with fail
  refine dnew_k _ _ ?_
  intro ha owna w1 g1 d1 _ _
  have DA := Lib.hid (show DomAt w1 ha owna S by rw [eS]; exact d1)
  replace HB := Lib.hid g1
  clear g1 d1 eS
  go_wp2_with fail
  refine dnew_k _ _ ?_
  intro hb ownb w2 g2 d2 _ _
  have DB := Lib.hid (show DomAt w2 hb ownb T by rw [eT]; exact d2)
  replace DA := Lib.hid (DA.out.below g2)
  replace HB := Lib.hid (HB.out.trans (g2.mono HB.out.size))
  clear g2 d2 eT
  have x1 : w2.cell? ⟨ha.d, 0, none⟩ = some (.map (some ha.n)) := cell_at DA.out.hd rfl
  have x2 : w2.cell? ⟨hb.d, 0, none⟩ = some (.map (some hb.n)) := cell_at DB.out.hd rfl
  have x3 : w2.cell? ⟨ha.d, 1, none⟩ = some (.map (some ha.g)) := cell_at DA.out.hd rfl
  have x4 : w2.cell? ⟨hb.d, 1, none⟩ = some (.map (some hb.g)) := cell_at DB.out.hd rfl
  have HK := Lib.hid (show ∀ w', Below w2.heap.size w2 w' → Below w2.heap.size w2 w' ∧ w'.cell? ⟨ha.d, 0, none⟩ = some (.map (some ha.n)) ∧ w'.cell? ⟨hb.d, 0, none⟩ = some (.map (some hb.n)) ∧ w'.cell? ⟨ha.d, 1, none⟩ = some (.map (some ha.g)) ∧ w'.cell? ⟨hb.d, 1, none⟩ = some (.map (some hb.g)) from
    fun w' hw => ⟨hw, (Mod.of_below hw).cell' x1 (fun h => h), (Mod.of_below hw).cell' x2 (fun h => h), (Mod.of_below hw).cell' x3 (fun h => h), (Mod.of_below hw).cell' x4 (fun h => h)⟩)
  clear x1 x2 x3 x4
  have YA := Lib.hid (Below.refl w2.heap.size w2).drew
  have DA2 := Lib.hid (DA.out.below YA.out)
  have DB2 := Lib.hid (DB.out.below YA.out)
  cases q1 with
  | false =>
    have HV := Lib.hid (show ∀ w', Below w2.heap.size w2 w' → R (.returned (.bool false)) w' from fun w' g => HR.out false w' (HB.out.trans (g.mono HB.out.size)) ⟨fun h => (by cases h), fun h => HQ1.out.2 h.1⟩)
    go_wp2_with fail
    refine wp_region_held_drew (S := fun w' => Below w2.heap.size w2 w' ∧ w'.cell? ⟨ha.d, 0, none⟩ = some (.map (some ha.n)) ∧ w'.cell? ⟨hb.d, 0, none⟩ = some (.map (some hb.n)) ∧ w'.cell? ⟨ha.d, 1, none⟩ = some (.map (some ha.g)) ∧ w'.cell? ⟨hb.d, 1, none⟩ = some (.map (some hb.g))) (by kernel_rfl) (HK.out _ YA.out) (fun hHeld => ?_)
    refine' wpAnyH_take (i := 0) (v := _) (List.getElem?_toArray.trans rfl) (by kernel_rfl) (by kernel_rfl) (by kernel_rfl) (fun _ _ _ h => h) (Or.inl ⟨by rfl, ?y0⟩) hHeld ?r0
    case y0 =>
      intro w hSw
      try dsimp only at hSw
      go_simp
      try with_reducible rfl
    try simp only [Act.put, List.setIfInBounds_toArray, List.set_cons_zero, List.set_cons_succ]
    refine' wpAnyH_take (i := 1) (v := _) (List.getElem?_toArray.trans rfl) (by kernel_rfl) (by kernel_rfl) (by kernel_rfl) (fun _ _ _ h => h) (Or.inl ⟨by rfl, ?y1⟩) hHeld ?r1
    case y1 =>
      intro w hSw
      try dsimp only at hSw
      go_simp
      try with_reducible rfl
    try simp only [Act.put, List.setIfInBounds_toArray, List.set_cons_zero, List.set_cons_succ]
    refine' wpAnyH_take (i := 2) (v := _) (List.getElem?_toArray.trans rfl) (by kernel_rfl) (by kernel_rfl) (by kernel_rfl) (fun _ _ _ h => h) (Or.inl ⟨by rfl, ?y2⟩) hHeld ?r2
    case y2 =>
      intro w hSw
      try dsimp only at hSw
      go_simp
      try with_reducible rfl
    try simp only [Act.put, List.setIfInBounds_toArray, List.set_cons_zero, List.set_cons_succ]
    refine' wpAnyH_take (i := 3) (v := _) (List.getElem?_toArray.trans rfl) (by kernel_rfl) (by kernel_rfl) (by kernel_rfl) (fun _ _ _ h => h) (Or.inl ⟨by rfl, ?y3⟩) hHeld ?r3
    case y3 =>
      intro w hSw
      try dsimp only at hSw
      go_simp
      try with_reducible rfl
    try simp only [Act.put, List.setIfInBounds_toArray, List.set_cons_zero, List.set_cons_succ]
    refine' wpAnyH_take (i := 4) (v := _) (List.getElem?_toArray.trans rfl) (by kernel_rfl) (by kernel_rfl) (by kernel_rfl) (fun _ _ _ h => h) (Or.inl ⟨by rfl, ?y4⟩) hHeld ?r4
    case y4 =>
      intro w hSw
      try dsimp only at hSw
      go_simp
      try with_reducible rfl
    try simp only [Act.put, List.setIfInBounds_toArray, List.set_cons_zero, List.set_cons_succ]
    refine' wpAnyH_take (i := 5) (v := _) (List.getElem?_toArray.trans rfl) (by kernel_rfl) (by kernel_rfl) (by kernel_rfl) (fun _ _ _ h => h) (Or.inl ⟨by rfl, ?y5⟩) hHeld ?r5
    case y5 =>
      intro w hSw
      try dsimp only at hSw
      go_simp
      try with_reducible rfl
    try simp only [Act.put, List.setIfInBounds_toArray, List.set_cons_zero, List.set_cons_succ]
    refine' wpAnyH_take (i := 6) (v := _) (List.getElem?_toArray.trans rfl) (by kernel_rfl) (by kernel_rfl) (by kernel_rfl) (fun _ _ _ h => h) (Or.inl ⟨by rfl, ?y6⟩) hHeld ?r6
    case y6 =>
      intro w hSw
      try dsimp only at hSw
      go_simp
      try with_reducible rfl
    try simp only [Act.put, List.setIfInBounds_toArray, List.set_cons_zero, List.set_cons_succ]
    refine' wpAnyH_take (i := 7) (v := _) (List.getElem?_toArray.trans rfl) (by kernel_rfl) (by kernel_rfl) (by kernel_rfl) (fun _ _ _ h => h) (Or.inl ⟨by rfl, ?y7⟩) hHeld ?r7
    case y7 =>
      intro w hSw
      try dsimp only at hSw
      go_simp
      try with_reducible rfl
    try simp only [Act.put, List.setIfInBounds_toArray, List.set_cons_zero, List.set_cons_succ]
    refine wpAnyH_ready (rs := [8]) (by kernel_rfl) (by simp) ?_
    refine AllReadyH.cons rfl (fun K hK => ?_) AllReadyH.nil
    go_simp
    go_at_call 70
    refine eqfA_q _ _ ha hb owna ownb S T DA2.out DB2.out HZS.out HZT.out false HQ1.out ?_
    intro w3 g3
    have y1 : Below w2.heap.size w2 w3 := Below.of_drew g3
    go_wp2_with fail
    refine hK.out _ _ (HK.out _ y1) (fun hHeld => ?_)
    clear hK K
    try simp only [Act.put, List.setIfInBounds_toArray, List.set_cons_zero, List.set_cons_succ]
    refine' wpAnyH_take (i := 9) (v := _) (List.getElem?_toArray.trans rfl) (by kernel_rfl) (by kernel_rfl) (by kernel_rfl) (fun _ _ _ h => h) (Or.inl ⟨by rfl, ?y9⟩) hHeld ?r9
    case y9 =>
      intro w hSw
      try dsimp only at hSw
      go_simp
      try with_reducible rfl
    try simp only [Act.put, List.setIfInBounds_toArray, List.set_cons_zero, List.set_cons_succ]
    refine wpAnyH_take (i := 10) (v := undef) (List.getElem?_toArray.trans rfl) (by kernel_rfl) (by kernel_rfl) (by kernel_rfl) (fun _ _ _ h => h) (Or.inr ⟨by rfl, rfl⟩) hHeld ?_
    try simp only [Act.put, List.setIfInBounds_toArray, List.set_cons_zero, List.set_cons_succ]
    refine wpAnyH_take (i := 11) (v := undef) (List.getElem?_toArray.trans rfl) (by kernel_rfl) (by kernel_rfl) (by kernel_rfl) (fun _ _ _ h => h) (Or.inr ⟨by rfl, rfl⟩) hHeld ?_
    try simp only [Act.put, List.setIfInBounds_toArray, List.set_cons_zero, List.set_cons_succ]
    refine wpAnyH_take (i := 12) (v := undef) (List.getElem?_toArray.trans rfl) (by kernel_rfl) (by kernel_rfl) (by kernel_rfl) (fun _ _ _ h => h) (Or.inr ⟨by rfl, rfl⟩) hHeld ?_
    try simp only [Act.put, List.setIfInBounds_toArray, List.set_cons_zero, List.set_cons_succ]
    refine wpAnyH_take (i := 13) (v := undef) (List.getElem?_toArray.trans rfl) (by kernel_rfl) (by kernel_rfl) (by kernel_rfl) (fun _ _ _ h => h) (Or.inr ⟨by rfl, rfl⟩) hHeld ?_
    try simp only [Act.put, List.setIfInBounds_toArray, List.set_cons_zero, List.set_cons_succ]
    refine wpAnyH_take (i := 14) (v := undef) (List.getElem?_toArray.trans rfl) (by kernel_rfl) (by kernel_rfl) (by kernel_rfl) (fun _ _ _ h => h) (Or.inr ⟨by rfl, rfl⟩) hHeld ?_
    try simp only [Act.put, List.setIfInBounds_toArray, List.set_cons_zero, List.set_cons_succ]
    refine wpAnyH_take (i := 15) (v := undef) (List.getElem?_toArray.trans rfl) (by kernel_rfl) (by kernel_rfl) (by kernel_rfl) (fun _ _ _ h => h) (Or.inr ⟨by rfl, rfl⟩) hHeld ?_
    try simp only [Act.put, List.setIfInBounds_toArray, List.set_cons_zero, List.set_cons_succ]
    refine wpAnyH_take (i := 16) (v := undef) (List.getElem?_toArray.trans rfl) (by kernel_rfl) (by kernel_rfl) (by kernel_rfl) (fun _ _ _ h => h) (Or.inr ⟨by rfl, rfl⟩) hHeld ?_
    try simp only [Act.put, List.setIfInBounds_toArray, List.set_cons_zero, List.set_cons_succ]
    refine wpAnyH_take (i := 17) (v := undef) (List.getElem?_toArray.trans rfl) (by kernel_rfl) (by kernel_rfl) (by kernel_rfl) (fun _ _ _ h => h) (Or.inr ⟨by rfl, rfl⟩) hHeld ?_
    try simp only [Act.put, List.setIfInBounds_toArray, List.set_cons_zero, List.set_cons_succ]
    refine wpAnyH_take (i := 18) (v := undef) (List.getElem?_toArray.trans rfl) (by kernel_rfl) (by kernel_rfl) (by kernel_rfl) (fun _ _ _ h => h) (Or.inr ⟨by rfl, rfl⟩) hHeld ?_
    try simp only [Act.put, List.setIfInBounds_toArray, List.set_cons_zero, List.set_cons_succ]
    refine' wpAnyH_take (i := 19) (v := _) (List.getElem?_toArray.trans rfl) (by kernel_rfl) (by kernel_rfl) (by kernel_rfl) (fun _ _ _ h => h) (Or.inl ⟨by rfl, ?y19⟩) hHeld ?r19
    case y19 =>
      intro w hSw
      try dsimp only at hSw
      go_simp
      try with_reducible rfl
    try simp only [Act.put, List.setIfInBounds_toArray, List.set_cons_zero, List.set_cons_succ]
    refine' wpAnyH_take (i := 20) (v := _) (List.getElem?_toArray.trans rfl) (by kernel_rfl) (by kernel_rfl) (by kernel_rfl) (fun _ _ _ h => h) (Or.inl ⟨by rfl, ?y20⟩) hHeld ?r20
    case y20 =>
      intro w hSw
      try dsimp only at hSw
      go_simp
      try with_reducible rfl
    try simp only [Act.put, List.setIfInBounds_toArray, List.set_cons_zero, List.set_cons_succ]
    refine wpAnyH_done (by kernel_rfl) ?_ _
    have hv := HV.out _ y1
    go_wp2_with fail
    exact hv
  | true =>
    have HALL := Lib.hid (HQ1.out.1 rfl)
    have HQ2 := Lib.hid (show q2 = true ↔ sameQ S T from ⟨fun h => ⟨HQ1.out.1 rfl, HQB.out.1 h⟩, fun h => HQB.out.2 h.2⟩)
    have HV := Lib.hid (show ∀ w', Below w2.heap.size w2 w' → R (.returned (.bool q2)) w' from fun w' g => HR.out q2 w' (HB.out.trans (g.mono HB.out.size)) HQ2.out)
    go_wp2_with fail
    go_region_held3 (fun w' => Below w2.heap.size w2 w' ∧ w'.cell? ⟨ha.d, 0, none⟩ = some (.map (some ha.n)) ∧ w'.cell? ⟨hb.d, 0, none⟩ = some (.map (some hb.n)) ∧ w'.cell? ⟨ha.d, 1, none⟩ = some (.map (some ha.g)) ∧ w'.cell? ⟨hb.d, 1, none⟩ = some (.map (some hb.g)))
      (first
      | exact HK.out _ YA.out
      | exact HK.out _ y2
      | exact HK.out _ y1)
      (first
      | (go_at_call 72; refine eqfB_q _ _ ha hb owna ownb S T (DA.out.below y1) (DB.out.below y1) HZS.out HZT.out q2 HQB.out ?_; intro w4 g4
         have y2 : Below w2.heap.size w2 w4 := y1.trans (g4.mono y1.size))
      | (go_at_call 70; refine eqfA_q _ _ ha hb owna ownb S T DA2.out DB2.out HZS.out HZT.out true ⟨fun _ => HALL.out, fun _ => rfl⟩ ?_; intro w3 g3
         have y1 : Below w2.heap.size w2 w3 := Below.of_drew g3))
    all_goals (
      have hv := HV.out _ y2
      go_wp2_with fail
      exact hv)
theorem same_v (R : Ending → World → Prop) (w : World) (va vb : Value) (S T : St) (DA : DomV w va S) (DB : DomV w vb T) (zS : ShortS S) (zT : ShortS T) (q : Bool) (hq : q = true ↔ sameQ S T)
    (hR : ∀ w', Below w.heap.size w w' → R (.returned (.bool q)) w') :
    Calls Tryz.prog 17 #[va, vb] w R := by
  have hR' : ∀ q' w', Below w.heap.size w w' → (q' = true ↔ sameQ S T) → R (.returned (.bool q')) w' := fun q' w' g h => by
    obtain rfl : q' = q := by
      cases q' <;> cases q <;> simp_all
    exact hR w' g
  rcases DA with ⟨ha, owna, rfl, DA⟩ | ⟨rfl, eS⟩ <;> rcases DB with ⟨hb, ownb, rfl, DB⟩ | ⟨rfl, eT⟩
  · exact same_pp R w S T ha owna DA hb ownb DB zS zT hR'
  · exact same_pn R w S T ha owna DA eT zS zT hR'
  · exact same_np R w S T hb ownb DB eS zS zT hR'
  · exact same_nn R w S T eS eT zS zT hR'
end Go.Proofs.YtmenipaibjifiaaGreatDoor

namespace Go.Proofs.YtmenipaibjifiaaGreatDoor
open Go.RowKit Go.BigFrame

theorem sameQ.symm {S T : St} : sameQ S T ↔ sameQ T S := ⟨fun h => ⟨fun k => (h.1 k).symm, fun k => (h.2 k).symm⟩, fun h => ⟨fun k => (h.1 k).symm, fun k => (h.2 k).symm⟩⟩
theorem sameQ.refl (S : St) : true = true ↔ sameQ S S := ⟨fun _ => ⟨fun _ => rfl, fun _ => rfl⟩, fun _ => rfl⟩
set_option maxRecDepth 100000 in
set_option maxHeartbeats 4000000 in
theorem sameL_k (R : Ending → World → Prop) (w : World) (va vb : Value) (S T : St) (DA : DomV w va S) (DB : DomV w vb T) (zS : ShortS S) (zT : ShortS T) (q : Bool) (hq : q = true ↔ sameQ S T)
    (hR : ∀ w', Below w.heap.size w w' → R (.returned (.bool true)) w') :
    Calls Tryz.prog 15 #[va, vb, .bool q] w R := by
  have HR := Lib.hid hR
  have HA := Lib.hid DA
  have HB := Lib.hid DB
  have HZ := Lib.hid zS
  have HY := Lib.hid zT
  have HQ := Lib.hid hq
  clear hR DA DB zS zT hq
  go_enter Tryz.func15, Tryz.ntmps15
  go_wp2_with fail
  refine same_v _ _ va vb S T HA.out HB.out HZ.out HY.out q HQ.out ?_
  intro w1 g1
  have B1 := Lib.hid g1
  clear g1
  go_wp2_with fail
  refine same_v _ _ vb va T S (HB.out.below B1.out) (HA.out.below B1.out) HY.out HZ.out q (HQ.out.trans sameQ.symm) ?_
  intro w2 g2
  have B2 := Lib.hid (B1.out.trans (g2.mono B1.out.size))
  clear g2
  go_wp2_with fail
  refine same_v _ _ va va S S (HA.out.below B2.out) (HA.out.below B2.out) HZ.out HZ.out true (sameQ.refl S) ?_
  intro w3 g3
  have B3 := Lib.hid (B2.out.trans (g3.mono B2.out.size))
  clear g3
  go_wp2_with fail
  refine same_v _ _ vb vb T T (HB.out.below B3.out) (HB.out.below B3.out) HY.out HY.out true (sameQ.refl T) ?_
  intro w4 g4
  have hv := HR.out w4 (B3.out.trans (g4.mono B3.out.size))
  clear g4
  go_wp2_with fail
  exact hv
end Go.Proofs.YtmenipaibjifiaaGreatDoor
