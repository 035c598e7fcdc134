/-
cluster: New; the ledger's sum, enter (of a node's first pod).
cluster: seek, Node, Room of a node that is there.
-/
import Derived.Test.YtdceflgemhcgcaaGreatDoorP35
import Derived.Test.YtdceflgemhcgcaaGreatDoorP27
import Derived.WalkSpells
set_option linter.unusedVariables false
set_option linter.unusedSimpArgs false
namespace Go.Proofs.YtdceflgemhcgcaaGreatDoor
open Go.RowKit Go.BigFrame

theorem mapNew {w : World} {b : Nat} (h : w.heap[b]? = some (.map #[] 0)) : MapAt Value.string w b [] := ⟨#[], 0, h, rfl, by simp, by simp, by simp⟩
theorem map_upd {P : Program} {κ : Type} [DecidableEq κ] {enc : κ → Value} {w : World} {b : Nat} {m : List (κ × Value)} (h : MapAt enc w b m) {kt e t : TypeId} (K : KeyT P kt enc) (ht : P.underlying t = some (.map kt e)) (k : κ) (v : Value) :
    ∃ w', (Instr.mapUpdate t (.map (some b)) (enc k) v).run P w = .ok () w' ∧ MapAt enc w' b (aset m k v) ∧ Mod (fun j => j = b) w w' := by
  obtain ⟨o, h1, h2⟩ := h.update K ht k v
  exact ⟨_, h1, h2, putObj_mod _ _ _⟩
set_option maxRecDepth 100000 in
set_option maxHeartbeats 4000000 in
theorem newTabA_k (R : Ending → World → Prop) (w : World) (hR : ∀ w', Below w.heap.size w w' → w'.heap.size = w.heap.size + 2 → MapAt Value.string w' w.heap.size [] → w'.heap[w.heap.size + 1]? = some (.cells #[.int .i64 512, .map (some w.heap.size), .slice none 0 0, .int .i64 0] 241) → R (.returned (.tuple #[.pointer (some ⟨w.heap.size + 1, 0, none⟩), .int .i64 0])) w') :
    Calls Tryz.prog 76 #[.int .i64 512] w R := by
  have HR := Lib.hid hR
  clear hR
  have hmm := @run_makeMap Tryz.prog
  go_enter Tryz.func76, Tryz.ntmps76
  go_wp2_with fail
  refine HR.out _ (Below.alloc (Below.alloc (Below.refl _ _) (Nat.le_refl _) _) (by simp) _) (by simp) (mapNew (hkeep (heap_alloc_new w _) _)) ?_
  have := heap_alloc_new (w.alloc (.map #[] 0)) (.cells #[.int .i64 512, .map (some w.heap.size), .slice none 0 0, .int .i64 0] 241)
  rwa [World.size_alloc] at this
set_option maxRecDepth 100000 in
set_option maxHeartbeats 4000000 in
theorem newTabB_k (R : Ending → World → Prop) (w : World) (hR : ∀ w', Below w.heap.size w w' → w'.heap.size = w.heap.size + 2 → MapAt Value.string w' w.heap.size [] → w'.heap[w.heap.size + 1]? = some (.cells #[.int .i64 2048, .map (some w.heap.size), .slice none 0 0, .int .i64 0] 244) → R (.returned (.tuple #[.pointer (some ⟨w.heap.size + 1, 0, none⟩), .int .i64 0])) w') :
    Calls Tryz.prog 77 #[.int .i64 2048] w R := by
  have HR := Lib.hid hR
  clear hR
  have hmm := @run_makeMap Tryz.prog
  go_enter Tryz.func77, Tryz.ntmps77
  go_wp2_with fail
  refine HR.out _ (Below.alloc (Below.alloc (Below.refl _ _) (Nat.le_refl _) _) (by simp) _) (by simp) (mapNew (hkeep (heap_alloc_new w _) _)) ?_
  have := heap_alloc_new (w.alloc (.map #[] 0)) (.cells #[.int .i64 2048, .map (some w.heap.size), .slice none 0 0, .int .i64 0] 244)
  rwa [World.size_alloc] at this
def own0 (b : Nat) : COwn := fun k => if k = b then some .m1 else if k = b + 1 then some .t1 else if k = b + 2 then some .m2 else if k = b + 3 then some .t2 else if k = b + 4 then some .b1 else if k = b + 5 then some .b2 else if k = b + 6 then some .hdr else none
set_option maxRecDepth 100000 in
set_option maxHeartbeats 4000000 in
theorem newClu_k (R : Ending → World → Prop) (w : World) (hR : ∀ h own w', Below w.heap.size w w' → CluAt w' h own CSt.empty → (∀ k, k < w.heap.size → own k = none) → R (.returned (.pointer (some ⟨h.c, 0, none⟩))) w') :
    Calls Tryz.prog 20 #[] w R := by
  have HR := Lib.hid hR
  clear hR
  have hmm := @run_makeMap Tryz.prog
  go_enter Tryz.func20, Tryz.ntmps20
  go_wp2_with fail
  refine newTabA_k _ _ ?_
  intro w1 g1 z1 m1 t1
  have HG1 := Lib.hid g1
  have HM1 := Lib.hid m1
  have HT1 := Lib.hid t1
  have HZ1 := Lib.hid z1
  clear g1 m1 t1 z1
  go_wp2_with fail
  refine newTabB_k _ _ ?_
  intro w2 g2 z2 m2 t2
  have HG2 := Lib.hid g2
  have HM2 := Lib.hid m2
  have HT2 := Lib.hid t2
  have HZ2 := Lib.hid (z2.trans (congrArg (fun n => n + 2) HZ1.out))
  have e1 : w1.heap.size = w.heap.size + 2 := HZ1.out
  rw [e1] at m2 t2
  have HM2 := Lib.hid m2
  have HT2 := Lib.hid t2
  clear g2 m2 t2 z2 e1
  go_wp2_with fail
  have e1 : w1.heap.size = w.heap.size + 2 := HZ1.out
  have e2 : w2.heap.size = w.heap.size + 4 := HZ2.out
  have CELLS : True := trivial
  obtain ⟨w3, hw3⟩ : ∃ w3, w3 = ((w2.alloc (.map #[] 0)).alloc (.map #[] 0)).alloc (.cells #[.map (some w2.heap.size), .map (some (w2.heap.size + 1)), .pointer (some ⟨w.heap.size + 1, 0, none⟩), .pointer (some ⟨w1.heap.size + 1, 0, none⟩)] 182) := ⟨_, rfl⟩
  have b23 : Below w2.heap.size w2 w3 := by
    rw [hw3]
    exact Below.alloc (Below.alloc (Below.alloc (Below.refl _ _) (Nat.le_refl _) _) (by simp) _) (by simp; omega) _
  have z3 : w3.heap.size = w.heap.size + 7 := by rw [hw3]; simp [e2]
  have c4 : w3.heap[w.heap.size + 4]? = some (.map #[] 0) := by rw [hw3, ← e2]; exact hkeep (hkeep (heap_alloc_new w2 _) _) _
  have c5 : w3.heap[w.heap.size + 5]? = some (.map #[] 0) := by
    rw [hw3, show w.heap.size + 5 = (w2.alloc (.map #[] 0)).heap.size by simp [e2]]
    exact hkeep (heap_alloc_new _ _) _
  have c6 : w3.heap[w.heap.size + 6]? = some (.cells #[.map (some (w.heap.size + 4)), .map (some (w.heap.size + 5)), .pointer (some ⟨w.heap.size + 1, 0, none⟩), .pointer (some ⟨w.heap.size + 3, 0, none⟩)] 182) := by
    rw [hw3, show w.heap.size + 6 = ((w2.alloc (.map #[] 0)).alloc (.map #[] 0)).heap.size by simp [e2]]
    have := heap_alloc_new ((w2.alloc (.map #[] 0)).alloc (.map #[] 0)) (.cells #[.map (some w2.heap.size), .map (some (w2.heap.size + 1)), .pointer (some ⟨w.heap.size + 1, 0, none⟩), .pointer (some ⟨w1.heap.size + 1, 0, none⟩)] 182)
    rw [e1, e2] at this
    rw [e1, e2]
    exact this
  have b03 : Below w.heap.size w w3 := (HG1.out.trans (HG2.out.mono HG1.out.size)).trans (b23.mono (by omega))
  have b13 : Below w1.heap.size w1 w3 := HG2.out.trans (b23.mono HG2.out.size)
  rw [e1] at b13
  rw [e2] at b23
  have hv := HR.out ⟨w.heap.size + 6, w.heap.size + 1, w.heap.size, .slice none 0 0, w.heap.size + 3, w.heap.size + 2, .slice none 0 0, w.heap.size + 4, w.heap.size + 5⟩ (own0 w.heap.size) w3 b03 {
    cell := c6
    lim := fun k hk => by unfold own0; simp only [z3] at hk; repeat rw [if_neg (by omega)]
    oc := by simp [own0]
    ot1 := by simp [own0]
    om1 := by simp [own0]
    ov1 := fun k hk => by cases hk
    ot2 := by simp [own0]
    om2 := by simp [own0]
    ov2 := fun k hk => by cases hk
    ob1 := by simp [own0]
    ob2 := by simp [own0]
    tn := ⟨(b13.block (w.heap.size + 1) (by omega)).trans HT1.out, HM1.out.move (b13.block w.heap.size (by omega)), OwnK.nil (fun k hk => by
      unfold Imm own0 at hk
      repeat' split at hk
      all_goals cases hk)⟩
    tb := ⟨(b23.block (w.heap.size + 3) (by omega)).trans HT2.out, HM2.out.move (b23.block (w.heap.size + 2) (by omega)), OwnK.nil (fun k hk => by
      unfold Imm own0 at hk
      repeat' split at hk
      all_goals cases hk)⟩
    sums := GMap.empty (mapNew c4)
    pods := GMap.empty (mapNew c5) } (fun k hk => by unfold own0; repeat rw [if_neg (by omega)])
  rw [hw3] at hv
  simp only [e2, e1] at hv ⊢
  exact hv
theorem sums_at {w : World} {h : CHdr} {own : COwn} {S : CSt} (hc : CluAt w h own S) (name : ByteArray) : ∃ v, SlK itmK 2 w (Imm own) v ((S.sums name).getD []) ∧ ∀ W, W.heap[h.b1]? = w.heap[h.b1]? → (Instr.lookup 177 (.map (some h.b1)) (.string name) false).run Tryz.prog W = .ok v W := by
  obtain ⟨m, hm, hf⟩ := hc.sums
  refine ⟨(aget m name).getD (.slice none 0 0), ?_, fun W hW => (hm.move hW).lookup strK Tryz.underlying177 (z := .slice none 0 0) (by kernel_rfl) name false⟩
  have h1 := hf name
  cases hs : S.sums name with
  | none => rw [hs] at h1; rw [h1.none_l]; exact SlK.nil
  | some l =>
    rw [hs] at h1
    obtain ⟨y, h2, h3⟩ := h1.some_l
    rw [h2]
    exact h3
set_option maxRecDepth 100000 in
set_option maxHeartbeats 4000000 in
theorem sum_k (R : Ending → World → Prop) (w : World) (h : CHdr) (own : COwn) (S : CSt) (name : ByteArray) (hc : CluAt w h own S) (hl : ((S.sums name).getD []).length ≤ 1073741824)
    (hR : ∀ v' w', Below w.heap.size w w' → SlK itmK 2 w' (fun k => w.heap.size ≤ k) v' ((S.sums name).getD []) → R (.returned v') w') :
    Calls Tryz.prog 109 #[.pointer (some ⟨h.c, 0, none⟩), .string name] w R := by
  obtain ⟨v, hv, hlk⟩ := sums_at hc name
  have HR := Lib.hid hR
  have l1 := hlk w rfl
  have y0 : w.cell? ⟨h.c, 0, none⟩ = some (.map (some h.b1)) := cell_at hc.cell rfl
  have HV := Lib.hid hv
  have HC := Lib.hid hc
  clear hR hlk hv hc
  go_enter Tryz.func109, Tryz.ntmps109
  go_wp2_with fail
  refine cloneI_k _ _ (Imm own) v ((S.sums name).getD []) (fun k hk => HC.out.lt hk) HV.out hl ?_
  intro v' w' g hs
  have hv := HR.out v' w' g hs
  clear g hs
  go_wp2_with fail
  exact hv
def enterS (S : CSt) (node : ByteArray) (x : Pd) : CSt := { S with sums := ups S.sums node (some (addI ((S.sums node).getD []) x.needs)), pods := ups S.pods node (some (ups ((S.pods node).getD (fun _ => none)) x.name (some 1))) }
/-- What a ledger's mutator may touch. -/
def Led (own : COwn) : Nat → Prop := fun k => own k = some .b1 ∨ own k = some .b2 ∨ ∃ q, own k = some (.inner q)
set_option maxRecDepth 100000 in
set_option maxHeartbeats 16000000 in
theorem enterNew_k (R : Ending → World → Prop) (w : World) (h : CHdr) (own : COwn) (S : CSt) (node : ByteArray) (hc : CluAt w h own S) (ok : Nat → Prop) (hok : ∀ k, ok k → k < w.heap.size) (x : Pd) (cs : List Value) (hx : pdK w ok x cs) (hnone : S.pods node = none)
    (g1 : GoodI ((S.sums node).getD [])) (g2 : GoodI x.needs) (hln : (bothN ((S.sums node).getD []) x.needs).length ≤ 16) (hfit : ∀ n, qget ((S.sums node).getD []) n + qget x.needs n ≤ 9223372036854775807)
    (hR : ∀ own' w', CluAt w' h own' (enterS S node x) → Ext' w own own' → Mod (Led own) w w' → R (.returned (.tuple #[])) w') :
    Calls Tryz.prog 111 #[.pointer (some ⟨h.c, 0, none⟩), .string node, .agg cs.toArray] w R := by
  obtain ⟨vl, vc, vt, va, vp, rfl, hl1, hl2, hl3, hl4, hl5⟩ := hx
  obtain ⟨Al, dl, rfl, _, _⟩ := hl1.form
  obtain ⟨Ac, dc, rfl, _, _⟩ := hl2.form
  obtain ⟨At, dt, rfl, _, _⟩ := hl3.form
  obtain ⟨Aa, da, rfl, _, _⟩ := hl4.form
  obtain ⟨Ap, dp, rfl, _, _⟩ := hl5.form
  obtain ⟨so, hso⟩ : ∃ l, (S.sums node).getD [] = l := ⟨_, rfl⟩
  rw [hso] at g1 hln hfit
  have HSO := Lib.hid hso
  obtain ⟨w1, hw1⟩ : ∃ w1, w1 = w.alloc (.cells #[.string x.name, .slice Al x.labels.length dl, .slice Ac x.needs.length dc, .slice At x.tols.length dt, .string x.req, .slice Aa x.apart.length da, .slice Ap x.prefer.length dp, .int .i64 x.prio] 31) := ⟨_, rfl⟩
  have HB1 := Lib.hid (show Below w.heap.size w w1 by rw [hw1]; exact Below.alloc (Below.refl _ _) (Nat.le_refl _) _)
  have bx : w1.heap[w.heap.size]? = some (.cells #[.string x.name, .slice Al x.labels.length dl, .slice Ac x.needs.length dc, .slice At x.tols.length dt, .string x.req, .slice Aa x.apart.length da, .slice Ap x.prefer.length dp, .int .i64 x.prio] 31 (0, 0)) := by rw [hw1]; exact heap_alloc_new w _
  have nc : ¬ w.heap.size = h.c := fun e => by have := hc.lt hc.oc; omega
  have HC1 := Lib.hid (hc.below HB1.out)
  obtain ⟨vo, hvo, hlk⟩ := sums_at HC1.out node
  rw [hso] at hvo
  have HVO := Lib.hid hvo
  have HN := Lib.hid hnone
  have HR := Lib.hid hR
  have HC := Lib.hid hc
  have HL2 := Lib.hid hl2
  have HLN := Lib.hid hln
  have HFT := Lib.hid hfit
  have HOK := Lib.hid hok
  have HBX := Lib.hid bx
  have ob := HC1.out.lt HC1.out.ob1
  have HK := Lib.hid (show ∀ W, Below w1.heap.size w1 W → Below w1.heap.size w1 W ∧ W.cell? ⟨h.c, 0, none⟩ = some (.map (some h.b1)) ∧ W.cell? ⟨w.heap.size, 2, none⟩ = some (.slice Ac x.needs.length dc) ∧ (Instr.lookup 177 (.map (some h.b1)) (.string node) false).run Tryz.prog W = .ok vo W from fun W g => ⟨g, (Mod.of_below g).cell' (cell_at HC1.out.cell rfl) (fun h => h), (Mod.of_below g).cell' (cell_at HBX.out rfl) (fun h => h), hlk W (g.block _ ob)⟩)
  have HX1 := Lib.hid ((HVO.out.bnd itmOk).mono itmOk (ok' := fun k => k < w1.heap.size) (fun k hk => hk.2))
  have HX2 := Lib.hid ((HL2.out.below itmOk HB1.out HOK.out).mono itmOk (ok' := fun k => k < w1.heap.size) (fun k hk => Nat.lt_of_lt_of_le (HOK.out k hk) HB1.out.size))
  have G1 := Lib.hid g1
  have G2 := Lib.hid g2
  have hln1 : so.length ≤ 16 := g1.1
  have hln2 : x.needs.length ≤ 16 := g2.1
  clear hR hc hl1 hl2 hl3 hl4 hl5 hln hfit hok bx hvo hlk ob g1 g2 hso hnone
  go_enter Tryz.func111, Tryz.ntmps111
  go_upto_region 1 with fail
  rw [← hw1]
  clear hw1
  go_cut [6] (fun v W => ∃ A d, v = .slice A (addI so x.needs).length d ∧ Below w1.heap.size w1 W ∧ SlK itmK 2 W (fun k => w1.heap.size ≤ k) v (addI so x.needs))
  case first =>
    have YA := Lib.hid (Below.refl w1.heap.size w1).drew
    refine wp_region_held_drew (S := fun W => Below w1.heap.size w1 W ∧ W.cell? ⟨h.c, 0, none⟩ = some (.map (some h.b1)) ∧ W.cell? ⟨w.heap.size, 2, none⟩ = some (.slice Ac x.needs.length dc) ∧ (Instr.lookup 177 (.map (some h.b1)) (.string node) false).run Tryz.prog W = .ok vo W) (by kernel_rfl) (HK.out _ YA.out) (fun hHeld => ?_)
    refine' wpAnyH_take (i := 0) (v := _) (List.getElem?_toArray.trans rfl) (by kernel_rfl) (by kernel_rfl) (by kernel_rfl) (fun _ _ _ h => h) (Or.inl ⟨by rfl, ?y0a⟩) hHeld ?r0a
    case y0a => intro w h; (try dsimp only at h); go_simp; (try with_reducible rfl)
    try simp only [Act.put, List.setIfInBounds_toArray, List.set_cons_zero, List.set_cons_succ]
    refine' wpAnyH_take (i := 1) (v := _) (List.getElem?_toArray.trans rfl) (by kernel_rfl) (by kernel_rfl) (by kernel_rfl) (fun _ _ _ h => h) (Or.inl ⟨by rfl, ?y1a⟩) hHeld ?r1a
    case y1a => intro w h; (try dsimp only at h); go_simp; (try with_reducible rfl)
    try simp only [Act.put, List.setIfInBounds_toArray, List.set_cons_zero, List.set_cons_succ]
    refine' wpAnyH_take (i := 2) (v := _) (List.getElem?_toArray.trans rfl) (by kernel_rfl) (by kernel_rfl) (by kernel_rfl) (fun _ _ _ h => h) (Or.inl ⟨by rfl, ?y2a⟩) hHeld ?r2a
    case y2a => intro w h; (try dsimp only at h); go_simp; (try with_reducible rfl)
    try simp only [Act.put, List.setIfInBounds_toArray, List.set_cons_zero, List.set_cons_succ]
    refine' wpAnyH_take (i := 3) (v := _) (List.getElem?_toArray.trans rfl) (by kernel_rfl) (by kernel_rfl) (by kernel_rfl) (fun _ _ _ h => h) (Or.inl ⟨by rfl, ?y3a⟩) hHeld ?r3a
    case y3a => intro w h; (try dsimp only at h); go_simp; (try with_reducible rfl)
    try simp only [Act.put, List.setIfInBounds_toArray, List.set_cons_zero, List.set_cons_succ]
    refine' wpAnyH_take (i := 4) (v := _) (List.getElem?_toArray.trans rfl) (by kernel_rfl) (by kernel_rfl) (by kernel_rfl) (fun _ _ _ h => h) (Or.inl ⟨by rfl, ?y4a⟩) hHeld ?r4a
    case y4a => intro w h; (try dsimp only at h); go_simp; (try with_reducible rfl)
    try simp only [Act.put, List.setIfInBounds_toArray, List.set_cons_zero, List.set_cons_succ]
    refine' wpAnyH_take (i := 5) (v := _) (List.getElem?_toArray.trans rfl) (by kernel_rfl) (by kernel_rfl) (by kernel_rfl) (fun _ _ _ h => h) (Or.inl ⟨by rfl, ?y5a⟩) hHeld ?r5a
    case y5a => intro w h; (try dsimp only at h); go_simp; (try with_reducible rfl)
    try simp only [Act.put, List.setIfInBounds_toArray, List.set_cons_zero, List.set_cons_succ]
    refine' wpAnyH_take (i := 6) (v := _) (List.getElem?_toArray.trans rfl) (by kernel_rfl) (by kernel_rfl) (by kernel_rfl) (fun _ _ _ h => h) (Or.inl ⟨by rfl, ?y6a⟩) hHeld ?r6a
    case y6a => intro w h; (try dsimp only at h); go_simp; (try with_reducible rfl)
    try simp only [Act.put, List.setIfInBounds_toArray, List.set_cons_zero, List.set_cons_succ]
    refine' wpAnyH_take (i := 7) (v := _) (List.getElem?_toArray.trans rfl) (by kernel_rfl) (by kernel_rfl) (by kernel_rfl) (fun _ _ _ h => h) (Or.inl ⟨by rfl, ?y7a⟩) hHeld ?r7a
    case y7a => intro w h; (try dsimp only at h); go_simp; (try with_reducible rfl)
    try simp only [Act.put, List.setIfInBounds_toArray, List.set_cons_zero, List.set_cons_succ]
    refine wpAnyH_ready (rs := [8]) (by kernel_rfl) (by simp) ?_
    refine AllReadyH.cons (List.getElem?_toArray.trans rfl) (fun K hK => ?_) AllReadyH.nil
    go_simp
    refine qadd_k _ _ (fun k => k < w1.heap.size) _ _ so x.needs (fun k hk => Nat.lt_of_lt_of_le hk YA.out.size) (HX1.out.below itmOk YA.out (fun k hk => hk)) G1.out (HX2.out.below itmOk YA.out (fun k hk => hk)) G2.out HLN.out HFT.out ?_
    intro v2 w2 gg2 hs2
    obtain ⟨A2, d2, e2, _, _⟩ := hs2.form
    subst e2
    have Y2 := Lib.hid (YA.out.trans (gg2.mono YA.out.size))
    have HS2 := Lib.hid (hs2.mono itmOk (ok' := fun k => w1.heap.size ≤ k) (fun k hk => Nat.le_trans YA.out.size hk))
    clear gg2 hs2
    go_wp2_with fail
    refine hK.out _ _ (HK.out _ Y2.out) (fun hHeld => ?_)
    clear hK K
    try simp only [Act.put, List.setIfInBounds_toArray, List.set_cons_zero, List.set_cons_succ]
    refine' wpAnyH_take (i := 9) (v := _) (List.getElem?_toArray.trans rfl) (by kernel_rfl) (by kernel_rfl) (by kernel_rfl) (fun _ _ _ h => h) (Or.inl ⟨by rfl, ?y9b⟩) hHeld ?r9b
    case y9b => intro w h; (try dsimp only at h); go_simp; (try with_reducible rfl)
    try simp only [Act.put, List.setIfInBounds_toArray, List.set_cons_zero, List.set_cons_succ]
    refine' wpAnyH_take (i := 10) (v := _) (List.getElem?_toArray.trans rfl) (by kernel_rfl) (by kernel_rfl) (by kernel_rfl) (fun _ _ _ h => h) (Or.inl ⟨by rfl, ?y10b⟩) hHeld ?r10b
    case y10b => intro w h; (try dsimp only at h); go_simp; (try with_reducible rfl)
    try simp only [Act.put, List.setIfInBounds_toArray, List.set_cons_zero, List.set_cons_succ]
    refine' wpAnyH_take (i := 11) (v := _) (List.getElem?_toArray.trans rfl) (by kernel_rfl) (by kernel_rfl) (by kernel_rfl) (fun _ _ _ h => h) (Or.inl ⟨by rfl, ?y11b⟩) hHeld ?r11b
    case y11b => intro w h; (try dsimp only at h); go_simp; (try with_reducible rfl)
    try simp only [Act.put, List.setIfInBounds_toArray, List.set_cons_zero, List.set_cons_succ]
    refine' wpAnyH_take (i := 12) (v := _) (List.getElem?_toArray.trans rfl) (by kernel_rfl) (by kernel_rfl) (by kernel_rfl) (fun _ _ _ h => h) (Or.inl ⟨by rfl, ?y12b⟩) hHeld ?r12b
    case y12b => intro w h; (try dsimp only at h); go_simp; (try with_reducible rfl)
    try simp only [Act.put, List.setIfInBounds_toArray, List.set_cons_zero, List.set_cons_succ]
    refine' wpAnyH_take (i := 13) (v := _) (List.getElem?_toArray.trans rfl) (by kernel_rfl) (by kernel_rfl) (by kernel_rfl) (fun _ _ _ h => h) (Or.inl ⟨by rfl, ?y13b⟩) hHeld ?r13b
    case y13b => intro w h; (try dsimp only at h); go_simp; (try with_reducible rfl)
    try simp only [Act.put, List.setIfInBounds_toArray, List.set_cons_zero, List.set_cons_succ]
    refine' wpAnyH_take (i := 14) (v := _) (List.getElem?_toArray.trans rfl) (by kernel_rfl) (by kernel_rfl) (by kernel_rfl) (fun _ _ _ h => h) (Or.inl ⟨by rfl, ?y14b⟩) hHeld ?r14b
    case y14b => intro w h; (try dsimp only at h); go_simp; (try with_reducible rfl)
    try simp only [Act.put, List.setIfInBounds_toArray, List.set_cons_zero, List.set_cons_succ]
    refine' wpAnyH_take (i := 15) (v := _) (List.getElem?_toArray.trans rfl) (by kernel_rfl) (by kernel_rfl) (by kernel_rfl) (fun _ _ _ h => h) (Or.inl ⟨by rfl, ?y15b⟩) hHeld ?r15b
    case y15b => intro w h; (try dsimp only at h); go_simp; (try with_reducible rfl)
    try simp only [Act.put, List.setIfInBounds_toArray, List.set_cons_zero, List.set_cons_succ]
    refine wpAnyH_done (by kernel_rfl) ?_ _
    go_wp2_with fail
    go_meet
    exact ⟨_, _, rfl, Y2.out, HS2.out⟩
  obtain ⟨A2, d2, rfl, hB2, hS2⟩ := hcut
  rename World => w2
  have HB2 := Lib.hid hB2
  have HS2 := Lib.hid hS2
  obtain ⟨hc2, he2⟩ := HC1.out.imms HB2.out (Nat.le_refl _)
  obtain ⟨own2, hown2⟩ : ∃ o, o = immIn own w1.heap.size w2.heap.size := ⟨_, rfl⟩
  have hs2' : SlK itmK 2 w2 (Imm own2) (.slice A2 (addI so x.needs).length d2) (addI so x.needs) := (HS2.out.bnd itmOk).mono itmOk (fun k hk => by rw [hown2]; exact immIn_in hk.1 hk.2)
  rw [← hown2] at hc2 he2
  have HI2 := Lib.hid hs2'
  have HC2 := Lib.hid hc2
  have HE2 := Lib.hid he2
  obtain ⟨ms, hms, hfs⟩ := hc2.sums
  obtain ⟨w3, hu3, hm3, hM3⟩ := map_upd hms strK Tryz.underlying177 node (.slice A2 (addI so x.needs).length d2) (P := Tryz.prog)
  have hg3 : GMap w3 h.b1 (sumR own2 w3) (ups S.sums node (some (addI so x.needs))) := GMap.set hfs hm3 (sumR_step hM3 (Ext'.refl _ _) (fun j e => by rw [e, hc2.ob1]; simp) hs2') (fun j v l _ hj => sumR_step hM3 (Ext'.refl _ _) (fun j e => by rw [e, hc2.ob1]; simp) hj)
  have HC3 := Lib.hid (hc2.setS hM3 hg3)
  have HM3 := Lib.hid hM3
  have y0 : w2.cell? ⟨h.c, 0, none⟩ = some (.map (some h.b1)) := cell_at hc2.cell rfl
  clear hB2 hS2 hc2 he2 hs2' hms hfs hm3 hM3 hg3 hown2
  go_upto_region 3 with fail
  clear hu3 y0
  obtain ⟨mp, hmp, hfp⟩ := HC3.out.pods
  have hag : aget mp node = none := by
    have h1 := hfp node
    rw [show ({ S with sums := ups S.sums node (some (addI so x.needs)) } : CSt).pods node = none from HN.out] at h1
    exact h1.none_l
  have l3 := hmp.lookup strK Tryz.underlying178 (P := Tryz.prog) (z := .map none) (by kernel_rfl) node false
  rw [hag] at l3
  have q1 := run_eql_map_nil (P := Tryz.prog) w3 238 _ _ none Tryz.underlying238
  simp only [Option.isNone_none] at q1
  have y1 : w3.cell? ⟨h.c, 1, none⟩ = some (.map (some h.b2)) := cell_at HC3.out.cell rfl
  have y1n : (w3.alloc (.map #[] 0)).cell? ⟨h.c, 1, none⟩ = some (.map (some h.b2)) := cell_old y1 _
  have hmm := @run_makeMap Tryz.prog
  have hmp4 := hmp.move (w' := w3.alloc (.map #[] 0)) (Below.heap_alloc _ _ _ hmp.lt)
  obtain ⟨w5, hu5, hm5, hM5⟩ := map_upd hmp4 strK Tryz.underlying178 node (.map (some w3.heap.size)) (P := Tryz.prog)
  have HMP := Lib.hid hm5
  have HM5 := Lib.hid hM5
  have HFP := Lib.hid hfp
  have HAG := Lib.hid hag
  clear hmp4 hm5 hM5 hfp hag hmp
  go_upto_region 5 with fail
  clear hu5 hmm l3 q1 y1n
  have b12 : w1.heap.size ≤ w2.heap.size := HB2.out.size
  have b23 : w2.heap.size ≤ w3.heap.size := HM3.out.size
  have b01 : w.heap.size < w1.heap.size := (Array.getElem?_eq_some_iff.1 HBX.out).1
  have oB : own w.heap.size = none := HC.out.lim _ (Nat.le_refl _)
  have nb1 : ¬ w.heap.size = h.b1 := fun e => by have h1 := HC.out.ob1; rw [← e, oB] at h1; cases h1
  have nb2 : ¬ w.heap.size = h.b2 := fun e => by have h1 := HC.out.ob2; rw [← e, oB] at h1; cases h1
  have nc2 : ¬ h.c = h.b2 := fun e => by have h1 := HC.out.oc; rw [e, HC.out.ob2] at h1; cases h1
  have lb2 : h.b2 < w3.heap.size := HC3.out.lt HC3.out.ob2
  have lc3 : h.c < w3.heap.size := HC3.out.lt HC3.out.oc
  have hal : ∀ k, k < w3.heap.size → ¬ k = h.b2 → w5.heap[k]? = w3.heap[k]? := fun k hk hn => (HM5.out.block k (by simp; omega) hn).trans (Below.heap_alloc _ _ _ hk)
  have c5 := (hal h.c lc3 nc2).trans HC3.out.cell
  have x5 := (hal w.heap.size (by omega) nb2).trans ((HM3.out.block w.heap.size (by omega) nb1).trans ((HB2.out.block w.heap.size b01).trans HBX.out))
  have e5 : w5.heap[w3.heap.size]? = some (.map #[] 0) := (HM5.out.block w3.heap.size (by simp) (by omega)).trans (heap_alloc_new _ _)
  obtain ⟨w6, hu6, hm6, hM6⟩ := map_upd (mapNew (w := w5.drew) e5) strK Tryz.underlying238 x.name (.int .i64 1) (P := Tryz.prog)
  have HC5 := Lib.hid c5
  have HX5 := Lib.hid x5
  have HM6 := Lib.hid hm6
  have hl5 : (aget (aset mp node (.map (some w3.heap.size))) node) = some (.map (some w3.heap.size)) := by rw [aget_aset, if_pos rfl]
  have HL5 := Lib.hid hl5
  have H6 := Lib.hid (show Mod (fun j => j = w3.heap.size) w5 w6 from (Mod.refl (fun j => j = w3.heap.size) w5).drew.trans hM6 (fun _ _ h => h))
  have n3b : ¬ h.b2 = w3.heap.size := by omega
  have n3c : ¬ h.c = w3.heap.size := by omega
  have n3B : ¬ w.heap.size = w3.heap.size := by omega
  have HK5 := Lib.hid (show ∀ W, Mod (fun j => j = w3.heap.size) w5 W → Mod (fun j => j = w3.heap.size) w5 W ∧ W.cell? ⟨h.c, 1, none⟩ = some (.map (some h.b2)) ∧ W.cell? ⟨w.heap.size, 0, none⟩ = some (.string x.name) ∧ (Instr.lookup 178 (.map (some h.b2)) (.string node) false).run Tryz.prog W = .ok (.map (some w3.heap.size)) W from fun W hW => ⟨hW, hW.cell' (cell_at HC5.out rfl) n3c, hW.cell' (cell_at HX5.out rfl) n3B, by
    have h1 := (HMP.out.mod hW n3b).lookup strK Tryz.underlying178 (P := Tryz.prog) (z := .map none) (by kernel_rfl) node false
    rw [HL5.out] at h1
    exact h1⟩)
  clear c5 x5 e5 hm6 hM6 hl5 hal y1
  refine wp_region_held_drew (S := fun W => Mod (fun j => j = w3.heap.size) w5 W ∧ W.cell? ⟨h.c, 1, none⟩ = some (.map (some h.b2)) ∧ W.cell? ⟨w.heap.size, 0, none⟩ = some (.string x.name) ∧ (Instr.lookup 178 (.map (some h.b2)) (.string node) false).run Tryz.prog W = .ok (.map (some w3.heap.size)) W) (by kernel_rfl) (HK5.out _ (Mod.refl _ _).drew) (fun hHeld => ?_)
  refine' wpAnyH_take (i := 0) (v := _) (List.getElem?_toArray.trans rfl) (by kernel_rfl) (by kernel_rfl) (by kernel_rfl) (fun _ _ _ h => h) (Or.inl ⟨by rfl, ?y0e⟩) hHeld ?r0e
  case y0e => intro w h; (try dsimp only at h); go_simp; (try with_reducible rfl)
  try simp only [Act.put, List.setIfInBounds_toArray, List.set_cons_zero, List.set_cons_succ]
  refine' wpAnyH_take (i := 1) (v := _) (List.getElem?_toArray.trans rfl) (by kernel_rfl) (by kernel_rfl) (by kernel_rfl) (fun _ _ _ h => h) (Or.inl ⟨by rfl, ?y1e⟩) hHeld ?r1e
  case y1e => intro w h; (try dsimp only at h); go_simp; (try with_reducible rfl)
  try simp only [Act.put, List.setIfInBounds_toArray, List.set_cons_zero, List.set_cons_succ]
  refine' wpAnyH_take (i := 2) (v := _) (List.getElem?_toArray.trans rfl) (by kernel_rfl) (by kernel_rfl) (by kernel_rfl) (fun _ _ _ h => h) (Or.inl ⟨by rfl, ?y2e⟩) hHeld ?r2e
  case y2e => intro w h; (try dsimp only at h); go_simp; (try with_reducible rfl)
  try simp only [Act.put, List.setIfInBounds_toArray, List.set_cons_zero, List.set_cons_succ]
  refine' wpAnyH_take (i := 3) (v := _) (List.getElem?_toArray.trans rfl) (by kernel_rfl) (by kernel_rfl) (by kernel_rfl) (fun _ _ _ h => h) (Or.inl ⟨by rfl, ?y3e⟩) hHeld ?r3e
  case y3e => intro w h; (try dsimp only at h); go_simp; (try with_reducible rfl)
  try simp only [Act.put, List.setIfInBounds_toArray, List.set_cons_zero, List.set_cons_succ]
  refine' wpAnyH_take (i := 4) (v := _) (List.getElem?_toArray.trans rfl) (by kernel_rfl) (by kernel_rfl) (by kernel_rfl) (fun _ _ _ h => h) (Or.inl ⟨by rfl, ?y4e⟩) hHeld ?r4e
  case y4e => intro w h; (try dsimp only at h); go_simp; (try with_reducible rfl)
  try simp only [Act.put, List.setIfInBounds_toArray, List.set_cons_zero, List.set_cons_succ]
  refine' wpAnyH_take (i := 5) (v := _) (List.getElem?_toArray.trans rfl) (by kernel_rfl) (by kernel_rfl) (by kernel_rfl) (fun _ _ _ h => h) (Or.inl ⟨by rfl, ?y5e⟩) hHeld ?r5e
  case y5e => intro w h; (try dsimp only at h); go_simp; (try with_reducible rfl)
  try simp only [Act.put, List.setIfInBounds_toArray, List.set_cons_zero, List.set_cons_succ]
  refine' wpAnyH_take (i := 6) (v := _) (List.getElem?_toArray.trans rfl) (by kernel_rfl) (by kernel_rfl) (by kernel_rfl) (fun _ _ _ h => h) (Or.inl ⟨by rfl, ?y6e⟩) hHeld ?r6e
  case y6e => intro w h; (try dsimp only at h); go_simp; (try with_reducible rfl)
  try simp only [Act.put, List.setIfInBounds_toArray, List.set_cons_zero, List.set_cons_succ]
  refine' wpAnyH_take (i := 7) (v := _) (List.getElem?_toArray.trans rfl) (by kernel_rfl) (by kernel_rfl) (by kernel_rfl) (fun _ _ _ h => h) (Or.inl ⟨by rfl, ?y7e⟩) hHeld ?r7e
  case y7e => intro w h; (try dsimp only at h); go_simp; (try with_reducible rfl)
  try simp only [Act.put, List.setIfInBounds_toArray, List.set_cons_zero, List.set_cons_succ]
  refine wpAnyH_ready (rs := [8]) (by kernel_rfl) (by simp) ?_
  refine AllReadyH.cons (List.getElem?_toArray.trans rfl) (fun K hK => ?_) AllReadyH.nil
  go_simp
  refine hK.out _ _ (HK5.out _ H6.out) (fun hHeld => ?_)
  clear hK K hu6
  try simp only [Act.put, List.setIfInBounds_toArray, List.set_cons_zero, List.set_cons_succ]
  refine wpAnyH_done (by kernel_rfl) ?_ _
  obtain ⟨own6, hown6⟩ : ∃ o : COwn, o = fun k => if k = w3.heap.size then some (.inner node) else own2 k := ⟨_, rfl⟩
  have he6 : Ext' w3 own2 own6 := fun k hk => by rw [hown6]; simp only; rw [if_neg (by omega)]
  have hl6 : ∀ k, (w3.alloc (.map #[] 0)).heap.size ≤ k → own6 k = none := fun k hk => by
    simp at hk
    rw [hown6]; simp only; rw [if_neg (by omega)]; exact HC3.out.lim k (by omega)
  have hc4 := HC3.out.grow (Below.alloc (Below.refl _ _) (Nat.le_refl _) (.map #[] 0)) he6 hl6
  have hm46 : Mod (fun j => j = h.b2 ∨ j = w3.heap.size) (w3.alloc (.map #[] 0)) w6 := (HM5.out.mono (T := fun j => j = h.b2 ∨ j = w3.heap.size) (fun _ _ h => .inl h)).trans H6.out (fun _ _ h => .inr h)
  have hm36 : Mod (fun j => j = h.b2 ∨ j = w3.heap.size) w3 w6 := ((Mod.refl (fun j => j = h.b2 ∨ j = w3.heap.size) w3).alloc (.map #[] 0)).trans hm46 (fun _ _ h => h)
  have hi : own6 w3.heap.size = some (.inner node) := by rw [hown6]; simp
  have hg : GMap w6 h.b2 (podR own6 w6) (ups S.pods node (some (ups (fun _ => none) x.name (some 1)))) := by
    refine GMap.set HFP.out (HMP.out.mod H6.out n3b) ⟨w3.heap.size, rfl, hi, GMap.set (m := []) (f := fun _ => none) (rel := oneR) (fun _ => trivial) HM6.out rfl (fun _ _ _ _ h => h)⟩ (fun j v g _ hj => ?_)
    refine podR_step hm36 he6 (fun q hq => ?_) hj
    rcases hq with rfl | rfl
    · rw [HC3.out.ob2]; simp
    · rw [HC3.out.lim _ (Nat.le_refl _)]; simp
  have hc6 := hc4.setP hm46 (fun j hj => by
    rcases hj with rfl | rfl
    · exact .inl hc4.ob2
    · exact .inr ⟨node, hi⟩) hg
  have hS : ({ ({ S with sums := ups S.sums node (some (addI so x.needs)) } : CSt) with pods := ups S.pods node (some (ups (fun _ => none) x.name (some 1))) } : CSt) = enterS S node x := by
    unfold enterS
    rw [HSO.out, HN.out]
    rfl
  rw [hS] at hc6
  have hE : Ext' w own own6 := fun k hk => (he6 k (by omega)).trans (HE2.out k (by omega))
  have hMM : Mod (Led own) w w6 := ((((((Mod.of_below HB1.out).trans (Mod.of_below HB2.out) (fun _ _ h => h.elim)).mono (T := Led own) (fun _ _ h => h.elim)).trans HM3.out (fun j _ e => .inl (by rw [e]; exact HC.out.ob1))).alloc (.map #[] 0)).trans HM5.out (fun j _ e => .inr (.inl (by rw [e]; exact HC.out.ob2)))).trans H6.out (fun j hj e => by omega)
  have hv := HR.out own6 w6 hc6 hE hMM
  clear hc6 hE hMM hS hg hc4 hm46 hm36 he6 hl6
  go_end0
  exact hv
end Go.Proofs.YtdceflgemhcgcaaGreatDoor

namespace Go.Proofs.YtdceflgemhcgcaaGreatDoor
open Go.RowKit Go.BigFrame

/-- A node that is there. -/
structure There (S : CSt) (name : ByteArray) (s : Nat) (r : SRow Nod) : Prop where
  n1 : 1 ≤ name.size
  n2 : name.size ≤ 63
  find : aget S.nodes.find name = some s
  row : S.nodes.rows[s]? = some r
  short : NodShort r.thing
set_option maxRecDepth 100000 in
set_option maxHeartbeats 8000000 in
theorem seekOk_k (R : Ending → World → Prop) (w : World) (h : CHdr) (own : COwn) (S : CSt) (name : ByteArray) (hc : CluAt w h own S) (s : Nat) (r : SRow Nod) (ht : There S name s r)
    (hR : ∀ cs w', Below w.heap.size w w' → nodK w' (fun k => w.heap.size ≤ k) r.thing cs → R (.returned (.tuple #[.int .i64 (s : Int), .agg cs.toArray, .nilIface])) w') :
    Calls Tryz.prog 106 #[.pointer (some ⟨h.c, 0, none⟩), .string name] w R := by
  have HR := Lib.hid hR
  clear hR
  obtain ⟨w1, hw1⟩ : ∃ w1, w1 = w.alloc (.cells #[.string ⟨#[]⟩, .slice none 0 0, .slice none 0 0, .slice none 0 0, .bool false] 26) := ⟨_, rfl⟩
  have HB1 := Lib.hid (show Below w.heap.size w w1 by rw [hw1]; exact Below.alloc (Below.refl _ _) (Nat.le_refl _) _)
  have z1 : w.heap.size < w1.heap.size := by rw [hw1]; simp
  have o1 : w1.heap[w.heap.size]? = some (.cells #[.string ⟨#[]⟩, .slice none 0 0, .slice none 0 0, .slice none 0 0, .bool false] 26 (0, 0)) := by rw [hw1]; exact heap_alloc_new _ _
  have HO1 := Lib.hid o1
  have HC1 := Lib.hid (hc.below HB1.out)
  have y1 : w1.cell? ⟨h.c, 2, none⟩ = some (.pointer (some ⟨h.t1, 0, none⟩)) := cell_at HC1.out.cell rfl
  have HC := Lib.hid hc
  clear hc o1
  go_enter Tryz.func106, Tryz.ntmps106
  go_upto_region 3 with fail
  rw [← hw1]
  clear hw1
  go_wp2_with fail
  refine findA_some _ _ (Imm own) h.t1 h.m1 h.v1 S.nodes name HC1.out.tn ht.n1 ht.n2 s ht.find r ht.row ?_
  intro cs w2 g2 hk
  have hl : cs.length = 5 := nodOk.len hk
  have G2 := Lib.hid g2
  have HK2 := Lib.hid hk
  obtain ⟨w3, hw3⟩ : ∃ w3, w3 = (w2.alloc (.cells #[.string ⟨#[]⟩, .slice none 0 0, .slice none 0 0, .slice none 0 0, .bool false] 26)).setRow w2.heap.size cs.toArray := ⟨_, rfl⟩
  have oa : (w2.alloc (.cells #[.string ⟨#[]⟩, .slice none 0 0, .slice none 0 0, .slice none 0 0, .bool false] 26)).heap[w2.heap.size]? = some (.cells #[.string ⟨#[]⟩, .slice none 0 0, .slice none 0 0, .slice none 0 0, .bool false] 26 (0, 0)) := heap_alloc_new _ _
  have o3 : w3.heap[w2.heap.size]? = some (.cells cs.toArray 26 (0, 0)) := by rw [hw3]; exact setRow_heap _ _ _ _ _ _ oa
  have G3 := Lib.hid (show Below w2.heap.size w2 w3 by rw [hw3]; exact below_setRow (Below.alloc (Below.refl _ _) (Nat.le_refl _) _) (Nat.le_refl _) _)
  have G13 := Lib.hid (G2.out.trans (G3.out.mono G2.out.size))
  have HB3 := Lib.hid (HB1.out.trans (G13.out.mono HB1.out.size))
  go_upto_region 4 with (refine wpList_store_row rfl 26 _ _ rfl w2.heap.size cs.toArray rfl rfl 26 #[.string ⟨#[]⟩, .slice none 0 0, .slice none 0 0, .slice none 0 0, .bool false] oa (by simp only [List.size_toArray, hl]; kernel_rfl) (by simp [hl]) (all_oneCell_toArray (one_nod HK2.out)) ?_)
  rw [← hw3]
  clear hw3 oa y1 g2 hk
  go_wp2_with (refine wpList_load_row rfl 26 _ rfl w2.heap.size rfl 26 cs.toArray (0, 0) _ o3 Tryz.underlying26 rfl (by simp only [List.size_toArray, hl]; kernel_rfl) ?_)
  refine ownNode_k _ _ (Imm own) r.thing cs (fun k hk => Nat.lt_of_lt_of_le (HC.out.lt hk) HB3.out.size) (nodOk.move HK2.out (fun k hk => G3.out.block k (Nat.lt_of_lt_of_le (HC.out.lt hk) (Nat.le_trans HB1.out.size G2.out.size)))) ht.short ?_
  intro cs' w4 g4 hk4
  have hl4 : cs'.length = 5 := nodOk.len hk4
  have o4 := (g4.block w.heap.size (Nat.lt_of_lt_of_le z1 G13.out.size)).trans ((G13.out.block w.heap.size z1).trans HO1.out)
  have HB4 := Lib.hid (HB3.out.trans (g4.mono HB3.out.size))
  have yy : (w4.setRow w.heap.size cs'.toArray).heap[w.heap.size]? = some (.cells cs'.toArray 26 (0, 0)) := setRow_heap _ _ _ _ _ _ o4
  have hv := HR.out cs' (w4.setRow w.heap.size cs'.toArray) (below_setRow HB4.out (Nat.le_refl _) _) (nodOk.mono (nodOk.move (w' := w4.setRow w.heap.size cs'.toArray) hk4 (fun k hk => setRow_other _ _ _ _ (by have := G13.out.size; have := G3.out.size; omega))) (fun k hk => Nat.le_trans HB3.out.size hk))
  have HK4 := Lib.hid hk4
  clear g4 hk4
  go_wp2_with (refine wpList_store_row rfl 26 _ _ rfl w.heap.size cs'.toArray rfl rfl 26 #[.string ⟨#[]⟩, .slice none 0 0, .slice none 0 0, .slice none 0 0, .bool false] o4 (by simp only [List.size_toArray, hl4]; kernel_rfl) (by simp [hl4]) (all_oneCell_toArray (one_nod HK4.out)) ?_)
  exact bodyPost_ret (results_trt Tryz.results106 _ _ w.heap.size 26 cs'.toArray (0, 0) _ rfl yy Tryz.underlying26 rfl (by simp only [List.size_toArray, hl4]; kernel_rfl)) rfl hv
set_option maxRecDepth 100000 in
set_option maxHeartbeats 8000000 in
theorem nodeOk_k (R : Ending → World → Prop) (w : World) (h : CHdr) (own : COwn) (S : CSt) (name : ByteArray) (hc : CluAt w h own S) (s : Nat) (r : SRow Nod) (ht : There S name s r)
    (hR : ∀ cs w', Below w.heap.size w w' → nodK w' (fun k => w.heap.size ≤ k) r.thing cs → R (.returned (.tuple #[.agg cs.toArray, .bool true])) w') :
    Calls Tryz.prog 30 #[.pointer (some ⟨h.c, 0, none⟩), .string name] w R := by
  have HR := Lib.hid hR
  clear hR
  obtain ⟨w1, hw1⟩ : ∃ w1, w1 = w.alloc (.cells #[.string ⟨#[]⟩, .slice none 0 0, .slice none 0 0, .slice none 0 0, .bool false] 26) := ⟨_, rfl⟩
  have HB1 := Lib.hid (show Below w.heap.size w w1 by rw [hw1]; exact Below.alloc (Below.refl _ _) (Nat.le_refl _) _)
  have z1 : w.heap.size < w1.heap.size := by rw [hw1]; simp
  have o1 : w1.heap[w.heap.size]? = some (.cells #[.string ⟨#[]⟩, .slice none 0 0, .slice none 0 0, .slice none 0 0, .bool false] 26 (0, 0)) := by rw [hw1]; exact heap_alloc_new _ _
  have HO1 := Lib.hid o1
  have HC1 := Lib.hid (hc.below HB1.out)
  have y1 : w1.cell? ⟨h.c, 2, none⟩ = some (.pointer (some ⟨h.t1, 0, none⟩)) := cell_at HC1.out.cell rfl
  have HC := Lib.hid hc
  clear hc o1
  go_enter Tryz.func30, Tryz.ntmps30
  go_upto_region 3 with fail
  rw [← hw1]
  clear hw1
  go_wp2_with fail
  refine findA_some _ _ (Imm own) h.t1 h.m1 h.v1 S.nodes name HC1.out.tn ht.n1 ht.n2 s ht.find r ht.row ?_
  intro cs w2 g2 hk
  have hl : cs.length = 5 := nodOk.len hk
  have G2 := Lib.hid g2
  have HK2 := Lib.hid hk
  obtain ⟨w3, hw3⟩ : ∃ w3, w3 = (w2.alloc (.cells #[.string ⟨#[]⟩, .slice none 0 0, .slice none 0 0, .slice none 0 0, .bool false] 26)).setRow w2.heap.size cs.toArray := ⟨_, rfl⟩
  have oa : (w2.alloc (.cells #[.string ⟨#[]⟩, .slice none 0 0, .slice none 0 0, .slice none 0 0, .bool false] 26)).heap[w2.heap.size]? = some (.cells #[.string ⟨#[]⟩, .slice none 0 0, .slice none 0 0, .slice none 0 0, .bool false] 26 (0, 0)) := heap_alloc_new _ _
  have o3 : w3.heap[w2.heap.size]? = some (.cells cs.toArray 26 (0, 0)) := by rw [hw3]; exact setRow_heap _ _ _ _ _ _ oa
  have G3 := Lib.hid (show Below w2.heap.size w2 w3 by rw [hw3]; exact below_setRow (Below.alloc (Below.refl _ _) (Nat.le_refl _) _) (Nat.le_refl _) _)
  have G13 := Lib.hid (G2.out.trans (G3.out.mono G2.out.size))
  have HB3 := Lib.hid (HB1.out.trans (G13.out.mono HB1.out.size))
  go_upto_region 4 with (refine wpList_store_row rfl 26 _ _ rfl w2.heap.size cs.toArray rfl rfl 26 #[.string ⟨#[]⟩, .slice none 0 0, .slice none 0 0, .slice none 0 0, .bool false] oa (by simp only [List.size_toArray, hl]; kernel_rfl) (by simp [hl]) (all_oneCell_toArray (one_nod HK2.out)) ?_)
  rw [← hw3]
  clear hw3 oa y1 g2 hk
  go_wp2_with (refine wpList_load_row rfl 26 _ rfl w2.heap.size rfl 26 cs.toArray (0, 0) _ o3 Tryz.underlying26 rfl (by simp only [List.size_toArray, hl]; kernel_rfl) ?_)
  refine ownNode_k _ _ (Imm own) r.thing cs (fun k hk => Nat.lt_of_lt_of_le (HC.out.lt hk) HB3.out.size) (nodOk.move HK2.out (fun k hk => G3.out.block k (Nat.lt_of_lt_of_le (HC.out.lt hk) (Nat.le_trans HB1.out.size G2.out.size)))) ht.short ?_
  intro cs' w4 g4 hk4
  have hl4 : cs'.length = 5 := nodOk.len hk4
  have o4 := (g4.block w.heap.size (Nat.lt_of_lt_of_le z1 G13.out.size)).trans ((G13.out.block w.heap.size z1).trans HO1.out)
  have HB4 := Lib.hid (HB3.out.trans (g4.mono HB3.out.size))
  have yy : (w4.setRow w.heap.size cs'.toArray).heap[w.heap.size]? = some (.cells cs'.toArray 26 (0, 0)) := setRow_heap _ _ _ _ _ _ o4
  have hv := HR.out cs' (w4.setRow w.heap.size cs'.toArray) (below_setRow HB4.out (Nat.le_refl _) _) (nodOk.mono (nodOk.move (w' := w4.setRow w.heap.size cs'.toArray) hk4 (fun k hk => setRow_other _ _ _ _ (by have := G13.out.size; have := G3.out.size; omega))) (fun k hk => Nat.le_trans HB3.out.size hk))
  have HK4 := Lib.hid hk4
  clear g4 hk4
  go_wp2_with (refine wpList_store_row rfl 26 _ _ rfl w.heap.size cs'.toArray rfl rfl 26 #[.string ⟨#[]⟩, .slice none 0 0, .slice none 0 0, .slice none 0 0, .bool false] o4 (by simp only [List.size_toArray, hl4]; kernel_rfl) (by simp [hl4]) (all_oneCell_toArray (one_nod HK4.out)) ?_)
  exact bodyPost_ret (results_row_tmp Tryz.results30 _ _ w.heap.size 26 cs'.toArray (0, 0) _ rfl yy Tryz.underlying26 rfl (by simp only [List.size_toArray, hl4]; kernel_rfl)) rfl hv
set_option maxRecDepth 100000 in
set_option maxHeartbeats 8000000 in
theorem roomOk_k (R : Ending → World → Prop) (w : World) (h : CHdr) (own : COwn) (S : CSt) (name : ByteArray) (hc : CluAt w h own S) (s : Nat) (r : SRow Nod) (ht : There S name s r) (g1 : GoodI r.thing.cap) (g2 : GoodI ((S.sums name).getD [])) (hfit : ∀ n, qget ((S.sums name).getD []) n ≤ qget r.thing.cap n)
    (hR : ∀ v w', Below w.heap.size w w' → SlK itmK 2 w' (fun k => w.heap.size ≤ k) v (subI r.thing.cap ((S.sums name).getD [])) → R (.returned (.tuple #[v, .bool true])) w') :
    Calls Tryz.prog 39 #[.pointer (some ⟨h.c, 0, none⟩), .string name] w R := by
  have HR := Lib.hid hR
  have HC := Lib.hid hc
  have hln1 : r.thing.cap.length ≤ 16 := g1.1
  have hln2 : ((S.sums name).getD []).length ≤ 16 := g2.1
  have G1 := Lib.hid g1
  have G2 := Lib.hid g2
  have HFT := Lib.hid hfit
  clear hR hc g1 g2 hfit
  go_enter Tryz.func39, Tryz.ntmps39
  go_wp2_with fail
  refine nodeOk_k _ _ h own S name HC.out s r ht ?_
  intro cs w1 gw1 hk
  obtain ⟨vl, vt, vc, rfl, hl, htt, hcp⟩ := hk
  obtain ⟨Al, dl, rfl, _, _⟩ := hl.form
  obtain ⟨At, dt, rfl, _, _⟩ := htt.form
  obtain ⟨Ac, dc, rfl, _, _⟩ := hcp.form
  have GW := Lib.hid gw1
  have HCP := Lib.hid (hcp.bnd itmOk)
  clear gw1 hl htt hcp
  obtain ⟨w3, hw3⟩ : ∃ w3, w3 = (w1.alloc (.cells #[.string ⟨#[]⟩, .slice none 0 0, .slice none 0 0, .slice none 0 0, .bool false] 26)).setRow w1.heap.size #[.string r.thing.name, .slice Al r.thing.labels.length dl, .slice At r.thing.taints.length dt, .slice Ac r.thing.cap.length dc, .bool r.thing.cord] := ⟨_, rfl⟩
  have oa : (w1.alloc (.cells #[.string ⟨#[]⟩, .slice none 0 0, .slice none 0 0, .slice none 0 0, .bool false] 26)).heap[w1.heap.size]? = some (.cells #[.string ⟨#[]⟩, .slice none 0 0, .slice none 0 0, .slice none 0 0, .bool false] 26 (0, 0)) := heap_alloc_new _ _
  have o3 : w3.heap[w1.heap.size]? = some (.cells #[.string r.thing.name, .slice Al r.thing.labels.length dl, .slice At r.thing.taints.length dt, .slice Ac r.thing.cap.length dc, .bool r.thing.cord] 26 (0, 0)) := by rw [hw3]; exact setRow_heap _ _ _ _ _ _ oa
  have G3 := Lib.hid (show Below w1.heap.size w1 w3 by rw [hw3]; exact below_setRow (Below.alloc (Below.refl _ _) (Nat.le_refl _) _) (Nat.le_refl _) _)
  have HB3 := Lib.hid (GW.out.trans (G3.out.mono GW.out.size))
  have HK := Lib.hid (show ∀ W, Below w3.heap.size w3 W → Below w3.heap.size w3 W ∧ W.cell? ⟨w1.heap.size, 3, none⟩ = some (.slice Ac r.thing.cap.length dc) from fun W g => ⟨g, (Mod.of_below g).cell' (cell_at o3 rfl) (fun h => h)⟩)
  have HC3 := Lib.hid (HC.out.below HB3.out)
  have HCP3 := Lib.hid (HCP.out.move itmOk (w' := w3) (fun k hk => G3.out.block k hk.2))
  go_upto_region 2 with (refine wpList_store_row rfl 26 _ _ rfl w1.heap.size #[.string r.thing.name, .slice Al r.thing.labels.length dl, .slice At r.thing.taints.length dt, .slice Ac r.thing.cap.length dc, .bool r.thing.cord] rfl rfl 26 #[.string ⟨#[]⟩, .slice none 0 0, .slice none 0 0, .slice none 0 0, .bool false] oa (by kernel_rfl) (by simp) (by simp [Value.oneCell']) ?_)
  rw [← hw3]
  clear hw3 oa o3
  go_upto_region 4 with fail
  go_cut [8] (fun v W => ∃ A d n, v = .slice A n d ∧ Below w.heap.size w W ∧ SlK itmK 2 W (fun k => w.heap.size ≤ k) v (subI r.thing.cap ((S.sums name).getD [])))
  case first =>
    have YA := Lib.hid (Below.refl w3.heap.size w3).drew
    refine wp_region_held_drew (S := fun W => Below w3.heap.size w3 W ∧ W.cell? ⟨w1.heap.size, 3, none⟩ = some (.slice Ac r.thing.cap.length dc)) (by kernel_rfl) (HK.out _ YA.out) (fun hHeld => ?_)
    refine' wpAnyH_take (i := 0) (v := _) (List.getElem?_toArray.trans rfl) (by kernel_rfl) (by kernel_rfl) (by kernel_rfl) (fun _ _ _ h => h) (Or.inl ⟨by rfl, ?y0a⟩) hHeld ?r0a
    case y0a => intro w h; (try dsimp only at h); go_simp; (try with_reducible rfl)
    try simp only [Act.put, List.setIfInBounds_toArray, List.set_cons_zero, List.set_cons_succ]
    refine' wpAnyH_take (i := 1) (v := _) (List.getElem?_toArray.trans rfl) (by kernel_rfl) (by kernel_rfl) (by kernel_rfl) (fun _ _ _ h => h) (Or.inl ⟨by rfl, ?y1a⟩) hHeld ?r1a
    case y1a => intro w h; (try dsimp only at h); go_simp; (try with_reducible rfl)
    try simp only [Act.put, List.setIfInBounds_toArray, List.set_cons_zero, List.set_cons_succ]
    refine' wpAnyH_take (i := 2) (v := _) (List.getElem?_toArray.trans rfl) (by kernel_rfl) (by kernel_rfl) (by kernel_rfl) (fun _ _ _ h => h) (Or.inl ⟨by rfl, ?y2a⟩) hHeld ?r2a
    case y2a => intro w h; (try dsimp only at h); go_simp; (try with_reducible rfl)
    try simp only [Act.put, List.setIfInBounds_toArray, List.set_cons_zero, List.set_cons_succ]
    refine' wpAnyH_take (i := 3) (v := _) (List.getElem?_toArray.trans rfl) (by kernel_rfl) (by kernel_rfl) (by kernel_rfl) (fun _ _ _ h => h) (Or.inl ⟨by rfl, ?y3a⟩) hHeld ?r3a
    case y3a => intro w h; (try dsimp only at h); go_simp; (try with_reducible rfl)
    try simp only [Act.put, List.setIfInBounds_toArray, List.set_cons_zero, List.set_cons_succ]
    refine' wpAnyH_take (i := 4) (v := _) (List.getElem?_toArray.trans rfl) (by kernel_rfl) (by kernel_rfl) (by kernel_rfl) (fun _ _ _ h => h) (Or.inl ⟨by rfl, ?y4a⟩) hHeld ?r4a
    case y4a => intro w h; (try dsimp only at h); go_simp; (try with_reducible rfl)
    try simp only [Act.put, List.setIfInBounds_toArray, List.set_cons_zero, List.set_cons_succ]
    refine' wpAnyH_take (i := 5) (v := _) (List.getElem?_toArray.trans rfl) (by kernel_rfl) (by kernel_rfl) (by kernel_rfl) (fun _ _ _ h => h) (Or.inl ⟨by rfl, ?y5a⟩) hHeld ?r5a
    case y5a => intro w h; (try dsimp only at h); go_simp; (try with_reducible rfl)
    try simp only [Act.put, List.setIfInBounds_toArray, List.set_cons_zero, List.set_cons_succ]
    refine wpAnyH_ready (rs := [6]) (by kernel_rfl) (by simp) ?_
    refine AllReadyH.cons (List.getElem?_toArray.trans rfl) (fun K hK => ?_) AllReadyH.nil
    go_simp
    refine sum_k _ _ h own S name (HC3.out.below YA.out) (by omega) ?_
    intro vs w4 g4 hs4
    obtain ⟨As, ds, es, _, _⟩ := hs4.form
    subst es
    have Y4 := Lib.hid (YA.out.trans (g4.mono YA.out.size))
    have HS4 := Lib.hid (hs4.bnd itmOk)
    clear g4 hs4
    go_wp2_with fail
    refine hK.out _ _ (HK.out _ Y4.out) (fun hHeld => ?_)
    clear hK K
    try simp only [Act.put, List.setIfInBounds_toArray, List.set_cons_zero, List.set_cons_succ]
    refine wpAnyH_ready (rs := [7]) (by kernel_rfl) (by simp) ?_
    refine AllReadyH.cons (List.getElem?_toArray.trans rfl) (fun K hK => ?_) AllReadyH.nil
    go_simp
    refine qsub_k _ _ (fun k => k < w4.heap.size) _ _ r.thing.cap ((S.sums name).getD []) (fun k hk => hk) ((HCP3.out.bnd itmOk).below itmOk Y4.out (fun k hk => hk.2) |>.mono itmOk (fun k hk => Nat.lt_of_lt_of_le hk.2 Y4.out.size)) G1.out (HS4.out.mono itmOk (fun k hk => hk.2)) G2.out HFT.out ?_
    intro v5 w5 g5 hs5
    obtain ⟨A5, d5, e5, _, _⟩ := hs5.form
    have Y5 := Lib.hid (Y4.out.trans (g5.mono Y4.out.size))
    have HS5 := Lib.hid (hs5.mono itmOk (ok' := fun k => w.heap.size ≤ k) (fun k hk => Nat.le_trans (Nat.le_trans HB3.out.size Y4.out.size) hk))
    subst e5
    clear g5 hs5
    go_wp2_with fail
    refine hK.out _ _ (HK.out _ Y5.out) (fun hHeld => ?_)
    clear hK K
    try simp only [Act.put, List.setIfInBounds_toArray, List.set_cons_zero, List.set_cons_succ]
    refine' wpAnyH_take (i := 8) (v := _) (List.getElem?_toArray.trans rfl) (by kernel_rfl) (by kernel_rfl) (by kernel_rfl) (fun _ _ _ h => h) (Or.inl ⟨by rfl, ?y8b⟩) hHeld ?r8b
    case y8b => intro w h; (try dsimp only at h); go_simp; (try with_reducible rfl)
    try simp only [Act.put, List.setIfInBounds_toArray, List.set_cons_zero, List.set_cons_succ]
    refine' wpAnyH_take (i := 9) (v := _) (List.getElem?_toArray.trans rfl) (by kernel_rfl) (by kernel_rfl) (by kernel_rfl) (fun _ _ _ h => h) (Or.inl ⟨by rfl, ?y9b⟩) hHeld ?r9b
    case y9b => intro w h; (try dsimp only at h); go_simp; (try with_reducible rfl)
    try simp only [Act.put, List.setIfInBounds_toArray, List.set_cons_zero, List.set_cons_succ]
    refine' wpAnyH_take (i := 10) (v := _) (List.getElem?_toArray.trans rfl) (by kernel_rfl) (by kernel_rfl) (by kernel_rfl) (fun _ _ _ h => h) (Or.inl ⟨by rfl, ?y10b⟩) hHeld ?r10b
    case y10b => intro w h; (try dsimp only at h); go_simp; (try with_reducible rfl)
    try simp only [Act.put, List.setIfInBounds_toArray, List.set_cons_zero, List.set_cons_succ]
    refine' wpAnyH_take (i := 11) (v := _) (List.getElem?_toArray.trans rfl) (by kernel_rfl) (by kernel_rfl) (by kernel_rfl) (fun _ _ _ h => h) (Or.inl ⟨by rfl, ?y11b⟩) hHeld ?r11b
    case y11b => intro w h; (try dsimp only at h); go_simp; (try with_reducible rfl)
    try simp only [Act.put, List.setIfInBounds_toArray, List.set_cons_zero, List.set_cons_succ]
    refine' wpAnyH_take (i := 12) (v := _) (List.getElem?_toArray.trans rfl) (by kernel_rfl) (by kernel_rfl) (by kernel_rfl) (fun _ _ _ h => h) (Or.inl ⟨by rfl, ?y12b⟩) hHeld ?r12b
    case y12b => intro w h; (try dsimp only at h); go_simp; (try with_reducible rfl)
    try simp only [Act.put, List.setIfInBounds_toArray, List.set_cons_zero, List.set_cons_succ]
    refine' wpAnyH_take (i := 13) (v := _) (List.getElem?_toArray.trans rfl) (by kernel_rfl) (by kernel_rfl) (by kernel_rfl) (fun _ _ _ h => h) (Or.inl ⟨by rfl, ?y13b⟩) hHeld ?r13b
    case y13b => intro w h; (try dsimp only at h); go_simp; (try with_reducible rfl)
    try simp only [Act.put, List.setIfInBounds_toArray, List.set_cons_zero, List.set_cons_succ]
    refine' wpAnyH_take (i := 14) (v := _) (List.getElem?_toArray.trans rfl) (by kernel_rfl) (by kernel_rfl) (by kernel_rfl) (fun _ _ _ h => h) (Or.inl ⟨by rfl, ?y14b⟩) hHeld ?r14b
    case y14b => intro w h; (try dsimp only at h); go_simp; (try with_reducible rfl)
    try simp only [Act.put, List.setIfInBounds_toArray, List.set_cons_zero, List.set_cons_succ]
    refine wpAnyH_done (by kernel_rfl) ?_ _
    go_wp2_with fail
    go_meet
    exact ⟨_, _, _, rfl, HB3.out.trans (Y5.out.mono HB3.out.size), HS5.out⟩
  obtain ⟨A5, d5, n5, rfl, hB5, hS5⟩ := hcut
  have hv := HR.out _ _ hB5 hS5
  clear hB5 hS5
  go_wp2_with fail
  exact hv
end Go.Proofs.YtdceflgemhcgcaaGreatDoor
