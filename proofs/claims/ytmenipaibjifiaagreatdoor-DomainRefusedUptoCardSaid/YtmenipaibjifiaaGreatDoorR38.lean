/-
  domain: fits.
-/
import Derived.Test.YtmenipaibjifiaaGreatDoorR26
import Derived.Test.YtmenipaibjifiaaGreatDoorR15
import Derived.Test.YtmenipaibjifiaaGreatDoorR33
import Derived.BigQuiet
import Derived.Deep.RegionWith
import Derived.Deep.RegionHeld3
import Derived.BigRegion
set_option linter.unusedVariables false
set_option linter.unusedSimpArgs false
namespace Go.Proofs.YtmenipaibjifiaaGreatDoor
open Go.RowKit Go.BigFrame

def guestAtB (S : St) (p s : Int) : Bool := match S.guests p with
  | some (_, n) => n == s
  | none => false
/-- What fits says of a change. -/
def fitsS (S : St) (x : Chg) : Bool :=
  if x.kind = 1 then decide (0 ≤ x.slot) && decide (x.slot < 512) && !(S.nodes x.slot).isSome && ((chk x.now.labels).2 == 0)
  else if x.kind = 2 then (S.nodes x.slot).isSome && ((onL S x.slot).length == 0)
  else if x.kind = 3 then (S.nodes x.slot).isSome && ((chk x.now.labels).2 == 0)
  else if x.kind = 4 then (S.nodes x.slot).isSome && decide (0 ≤ x.podSlot) && decide (x.podSlot < 2048) && !(S.guests x.podSlot).isSome && ((chk x.pod.labels).2 == 0)
  else if x.kind = 5 then (S.nodes x.slot).isSome && (S.guests x.podSlot).isSome && guestAtB S x.podSlot x.slot
  else false

set_option maxRecDepth 100000 in
set_option maxHeartbeats 40000000 in
theorem dfits_k (R : Ending → World → Prop) (w : World) (h : Hdr) (own : Own') (S : St) (ok : Nat → Prop) (x : Chg) (cs : List Value) (D : DomAt w h own S) (hok : ∀ k, ok k → k < w.heap.size) (hx : chgK w ok x cs) (hs : ChgFit x) (hG : GOk w)
    (hons : (S.on x.slot).isSome = (S.nodes x.slot).isSome) (hR : ∀ w', Below w.heap.size w w' → R (.returned (.bool (fitsS S x))) w') :
    Calls Tryz.prog 54 #[.pointer (some ⟨h.d, 0, none⟩), .agg cs.toArray] w R := by
  obtain ⟨vla, vta, vca, vlb, vtb, vcb, vplc, vpnc, vptc, vpac, vppc, rfl, hn1, hn2, hp3⟩ := chg_form hx
  obtain ⟨s1, s2⟩ := hs
  obtain ⟨_, _, _, en, hnl, _, _⟩ := hn2
  obtain ⟨_, _, _, _, _, ep, hpl, _, _, _, _⟩ := hp3
  simp only [List.cons.injEq, and_true, true_and] at en ep
  obtain ⟨rfl, rfl, rfl⟩ := en
  obtain ⟨rfl, rfl, rfl, rfl, rfl⟩ := ep
  have HR := Lib.hid hR
  have HNL := Lib.hid hnl
  have HPL := Lib.hid hpl
  have HD := Lib.hid D
  clear hR hx hnl hpl D
  obtain ⟨CH, hCH⟩ : ∃ CH : Array Value, CH = #[.int .i64 x.kind, .int .i64 x.slot, .int .i64 x.podSlot, .string x.was.name, vla, vta, vca, .bool x.was.cord, .string x.now.name, vlb, vtb, vcb, .bool x.now.cord, .string x.pod.name, vplc, vpnc, vptc, .string x.pod.req, vpac, vppc, .int .i64 x.pod.prio] := ⟨_, rfl⟩
  have HCH := Lib.hid hCH
  clear hCH
  go_enter Tryz.func54, Tryz.ntmps54
  go_upto_region 1 with fail
  go_cut [6] (fun v6 wr => v6 = .bool (S.nodes x.slot).isSome ∧ Below w.heap.size w wr ∧ wr.heap[w.heap.size]? = some (.cells CH 42))
  case first =>
    have t0 : Below w.heap.size w (w.alloc (.cells CH 42)) := Below.alloc (Below.refl _ _) (Nat.le_refl _) _
    have n0 : (w.alloc (.cells CH 42)).heap[w.heap.size]? = some (.cells CH 42) := heap_alloc_new _ _
    have D0 := HD.out.alloc (.cells CH 42)
    rw [HCH.out] at t0 n0 D0
    have E0 := Lib.hid (show w.alloc (.cells CH 42) = w.alloc (.cells #[.int .i64 x.kind, .int .i64 x.slot, .int .i64 x.podSlot, .string x.was.name, vla, vta, vca, .bool x.was.cord, .string x.now.name, vlb, vtb, vcb, .bool x.now.cord, .string x.pod.name, vplc, vpnc, vptc, .string x.pod.req, vpac, vppc, .int .i64 x.pod.prio] 42) by rw [HCH.out])
    generalize w.alloc (.cells #[.int .i64 x.kind, .int .i64 x.slot, .int .i64 x.podSlot, .string x.was.name, vla, vta, vca, .bool x.was.cord, .string x.now.name, vlb, vtb, vcb, .bool x.now.cord, .string x.pod.name, vplc, vpnc, vptc, .string x.pod.req, vpac, vppc, .int .i64 x.pod.prio] 42) = W0 at *
    have c0 : W0.cell? ⟨h.d, 0, none⟩ = some (.map (some h.n)) := cell_at D0.hd rfl
    have c1 : W0.cell? ⟨w.heap.size, 1, none⟩ = some (.int .i64 x.slot) := cell_at n0 rfl
    obtain ⟨m, hm, hmf⟩ := D0.fn
    have hat := hmf x.slot
    have his : (aget m x.slot).isSome = (S.nodes x.slot).isSome := by
      cases e : aget m x.slot <;> cases e2 : S.nodes x.slot <;> rw [e, e2] at hat <;> first | rfl | exact hat.elim
    have l1 := (hm.move (w' := W0.drew) rfl).lookup intK Tryz.underlying118 (z := .slice none 0 0) (by kernel_rfl) x.slot true
    rw [his] at l1
    simp only [if_true] at l1
    have T0 := Lib.hid t0
    have N0 := Lib.hid n0
    clear his hat hmf hm D0 t0 n0
    go_region
    all_goals (
      go_wp2_with fail
      go_meet
      exact ⟨rfl, T0.out.drew, by rw [HCH.out]; exact N0.out⟩)
  case rest =>
    obtain ⟨rfl, hB1, hc1⟩ := hcut
    go_wp2_with fail
    go_cut [7, 8] (fun v7 v8 wr => ∃ Bg u nd, v7 = .pointer (some ⟨Bg, 0, none⟩) ∧ v8 = .bool (S.guests x.podSlot).isSome ∧ wr.heap[Bg]? = some (.cells #[u, .int .i64 nd] 139) ∧ (∀ l q, S.guests x.podSlot = some (l, q) → nd = q) ∧ Below w.heap.size w wr ∧ wr.heap[w.heap.size]? = some (.cells CH 42))
    case first =>
      have D0 := HD.out.below hB1
      obtain ⟨m, u, nd, hm, hgu, hlu, his, hnd⟩ := D0.guestRead x.podSlot
      obtain ⟨Ag, cg, eu, _, _⟩ := hlu.form
      subst eu
      have n0 := hc1
      rw [HCH.out] at n0
      have c0 : wc.cell? ⟨h.d, 1, none⟩ = some (.map (some h.g)) := cell_at D0.hd rfl
      have c1 : wc.cell? ⟨w.heap.size, 2, none⟩ = some (.int .i64 x.podSlot) := cell_at n0 rfl
      have l1 := (hm.move (w' := wc.drew) rfl).lookup intK Tryz.underlying119 (z := .agg #[.slice none 0 0, .int .i64 0]) (by kernel_rfl) x.podSlot true
      rw [hgu, his] at l1
      simp only [if_true] at l1
      have c0' := cell_old c0 (.cells #[.slice none 0 0, .int .i64 0] 139)
      have c1' := cell_old c1 (.cells #[.slice none 0 0, .int .i64 0] 139)
      have l1' := (hm.mod (((Mod.refl Non wc).alloc (.cells #[.slice none 0 0, .int .i64 0] 139)).drew) (fun h => h)).lookup intK Tryz.underlying119 (z := .agg #[.slice none 0 0, .int .i64 0]) (by kernel_rfl) x.podSlot true
      rw [hgu, his] at l1'
      simp only [if_true] at l1'
      have HND := Lib.hid hnd
      have HB1 := Lib.hid hB1
      have HC1 := Lib.hid hc1
      clear hgu his hm D0 hlu n0 hnd hB1 hc1
      go_region
      all_goals (
        go_wp2_with fail
        go_meet
        exact ⟨_, _, _, rfl, rfl, heap_alloc_new _ _, HND.out, (HB1.out.alloc HB1.out.size _).drew, heap_keep HC1.out _⟩)
    case rest =>
      obtain ⟨Bg, u, nd, rfl, rfl, hbg, hnd, hB2, hc2⟩ := hcut
      have n0 := hc2
      rw [HCH.out] at n0
      have D2 := HD.out.below hB2
      have g1 : wc.cell? ⟨Bg, 1, none⟩ = some (.int .i64 nd) := cell_at hbg rfl
      have c0 : wc.cell? ⟨w.heap.size, 0, none⟩ = some (.int .i64 x.kind) := cell_at n0 rfl
      have c1 : wc.cell? ⟨w.heap.size, 1, none⟩ = some (.int .i64 x.slot) := cell_at n0 rfl
      have c2 : wc.cell? ⟨w.heap.size, 2, none⟩ = some (.int .i64 x.podSlot) := cell_at n0 rfl
      have c9 : wc.cell? ⟨w.heap.size, 9, none⟩ = some vlb := cell_at n0 rfl
      have c14 : wc.cell? ⟨w.heap.size, 14, none⟩ = some vplc := cell_at n0 rfl
      have HB2 := Lib.hid hB2
      have HND := Lib.hid hnd
      have hG2 := GOk.below hG hB2
      have hok2 : ∀ k, ok k → k < wc.heap.size := fun k hk => Nat.lt_of_lt_of_le (hok k hk) hB2.size
      have HNL2 := Lib.hid (HNL.out.below labOk hB2 hok)
      have HPL2 := Lib.hid (HPL.out.below labOk hB2 hok)
      have HD2 := Lib.hid D2
      have x2 : wc.cell? ⟨h.d, 2, none⟩ = some (.map (some h.o)) := cell_at D2.hd rfl
      obtain ⟨Ab, cb, eb, _, _⟩ := HNL2.out.form
      obtain ⟨Ap, cp, ep2, _, _⟩ := HPL2.out.form
      subst eb
      subst ep2
      clear hbg hnd hB2 hc2 n0 D2
      have HON := Lib.hid hons
      clear hons
      by_cases k1 : x.kind = 1
      · have q1 : (x.kind == 1) = true := by simpa using k1
        rcases Int.lt_or_le x.slot 0 with h0 | h0
        · have e1 : decide (0 ≤ x.slot) = false := by simpa using h0
          have hv := HR.out _ HB2.out
          rw [show fitsS S x = false by unfold fitsS; simp [k1]; omega] at hv
          go_wp2_with fail
          exact hv
        · have e1 : decide (0 ≤ x.slot) = true := by simpa using h0
          rcases Int.lt_or_le x.slot 512 with h1 | h1
          · have e2 : decide (x.slot < 512) = true := by simpa using h1
            cases ht : (S.nodes x.slot).isSome with
            | true =>
              have ht2 : (S.nodes x.slot).isSome = true := ht
              have hv := HR.out _ HB2.out
              rw [show fitsS S x = false by unfold fitsS; rw [if_pos k1, ht]; simp] at hv
              go_wp2_with fail
              exact hv
            | false =>
              have hv0 := fun w9 (hB9 : Below wc.heap.size wc w9) => HR.out w9 (HB2.out.trans (hB9.mono HB2.out.size))
              rw [show fitsS S x = ((chk x.now.labels).2 == 0) by unfold fitsS; rw [if_pos k1, ht, e1, e2]; simp] at hv0
              have HV0 := Lib.hid hv0
              clear hv0
              go_wp2_with (go_at_call 140; refine list_k _ _ ok _ x.now.labels hG2 hok2 HNL2.out s1 ?_; intro w9 hB9; have hv := HV0.out w9 hB9)
              exact hv
          · have e2 : decide (x.slot < 512) = false := by simpa using h1
            have hv := HR.out _ HB2.out
            rw [show fitsS S x = false by unfold fitsS; simp [k1]; omega] at hv
            go_wp2_with fail
            exact hv
      have q1 : (x.kind == 1) = false := by simpa using k1
      by_cases k2 : x.kind = 2
      · have q2 : (x.kind == 2) = true := by simpa using k2
        cases ht : (S.nodes x.slot).isSome with
        | false =>
          have hv0 := fun w9 (hB9 : Below w.heap.size w w9) => HR.out w9 hB9
          rw [show fitsS S x = false by unfold fitsS; rw [if_neg k1, if_pos k2, ht]; simp] at hv0
          have HV0 := Lib.hid hv0
          clear hv0
          go_wp2_with fail
          go_quiet (fail)
          go_wp2_with fail
          exact HV0.out _ (by first | exact HB2.out | exact HB2.out.drew | exact below_drewN HB2.out _)
        | true =>
          obtain ⟨ws, hws⟩ := Option.isSome_iff_exists.1 (HON.out.trans ht)
          obtain ⟨m, hm, hmf⟩ := HD2.out.fo
          have hat := hmf x.slot
          rw [hws] at hat
          obtain ⟨v, hv2, sO, bO, rfl, hSO, oO, iO⟩ := hat.some_l
          have l1 := (hm.move (w' := wc.drew) rfl).lookup intK Tryz.underlying120 (z := .pointer none) (by kernel_rfl) x.slot false
          rw [hv2] at l1
          simp only [Bool.false_eq_true, if_false, Option.getD_some] at l1
          have hol : (onL S x.slot).length = (mems 2048 ws).length := by unfold onL; rw [hws]
          have hv0 := fun w9 (hB9 : Below w.heap.size w w9) => HR.out w9 hB9
          rw [show fitsS S x = (((mems 2048 ws).length : Int) == 0) by unfold fitsS; rw [if_neg k1, if_pos k2, ht, hol, Bool.true_and, Bool.eq_iff_iff]; simp] at hv0
          have HV0 := Lib.hid hv0
          have HSO := Lib.hid hSO
          have hd2 : wc.drew.cell? ⟨h.d, 2, none⟩ = some (.map (some h.o)) := x2
          have hd1 : wc.drew.cell? ⟨w.heap.size, 1, none⟩ = some (.int .i64 x.slot) := c1
          clear hv0 hol hat hmf hm hv2 hws hSO
          go_wp2_with fail
          go_region_held3 (fun w' => w'.cell? ⟨h.d, 2, none⟩ = some (.map (some h.o)) ∧ w'.cell? ⟨w.heap.size, 1, none⟩ = some (.int .i64 x.slot))
            (first
            | exact ⟨hd2, hd1⟩)
            (first
            | (go_at_call 25; refine bcount_p _ _ (fun _ => True) _ 2048 ws (.inr ⟨sO, bO, rfl, HSO.out.move rfl rfl, trivial, trivial⟩) (by decide) ?_))
          all_goals (
            go_wp2_with fail
            exact HV0.out _ HB2.out.drew)
      have q2 : (x.kind == 2) = false := by simpa using k2
      by_cases k3 : x.kind = 3
      · have q3 : (x.kind == 3) = true := by simpa using k3
        cases ht : (S.nodes x.slot).isSome with
        | false =>
          have hv := HR.out _ HB2.out
          rw [show fitsS S x = false by unfold fitsS; rw [if_neg k1, if_neg k2, if_pos k3, ht]; simp] at hv
          go_wp2_with fail
          exact hv
        | true =>
          have hv0 := fun w9 (hB9 : Below wc.heap.size wc w9) => HR.out w9 (HB2.out.trans (hB9.mono HB2.out.size))
          rw [show fitsS S x = ((chk x.now.labels).2 == 0) by unfold fitsS; rw [if_neg k1, if_neg k2, if_pos k3, ht]; simp] at hv0
          have HV0 := Lib.hid hv0
          clear hv0
          go_wp2_with (go_at_call 140; refine list_k _ _ ok _ x.now.labels hG2 hok2 HNL2.out s1 ?_; intro w9 hB9; have hv := HV0.out w9 hB9)
          exact hv
      have q3 : (x.kind == 3) = false := by simpa using k3
      by_cases k4 : x.kind = 4
      · have q4 : (x.kind == 4) = true := by simpa using k4
        cases ht : (S.nodes x.slot).isSome with
        | false =>
          have hv := HR.out _ HB2.out
          rw [show fitsS S x = false by unfold fitsS; rw [if_neg k1, if_neg k2, if_neg k3, if_pos k4, ht]; simp] at hv
          go_wp2_with fail
          exact hv
        | true =>
          rcases Int.lt_or_le x.podSlot 0 with h0 | h0
          · have e1 : decide (0 ≤ x.podSlot) = false := by simpa using h0
            have hv := HR.out _ HB2.out
            rw [show fitsS S x = false by unfold fitsS; rw [if_neg k1, if_neg k2, if_neg k3, if_pos k4, ht, e1]; simp] at hv
            go_wp2_with fail
            exact hv
          · have e1 : decide (0 ≤ x.podSlot) = true := by simpa using h0
            rcases Int.lt_or_le x.podSlot 2048 with h1 | h1
            · have e2 : decide (x.podSlot < 2048) = true := by simpa using h1
              cases hg : (S.guests x.podSlot).isSome with
              | true =>
                have hv := HR.out _ HB2.out
                rw [show fitsS S x = false by unfold fitsS; rw [if_neg k1, if_neg k2, if_neg k3, if_pos k4, ht, e1, e2, hg]; simp] at hv
                go_wp2_with fail
                exact hv
              | false =>
                have hv0 := fun w9 (hB9 : Below wc.heap.size wc w9) => HR.out w9 (HB2.out.trans (hB9.mono HB2.out.size))
                rw [show fitsS S x = ((chk x.pod.labels).2 == 0) by unfold fitsS; rw [if_neg k1, if_neg k2, if_neg k3, if_pos k4, ht, e1, e2, hg]; simp] at hv0
                have HV0 := Lib.hid hv0
                clear hv0
                go_wp2_with (go_at_call 140; refine list_k _ _ ok _ x.pod.labels hG2 hok2 HPL2.out s2 ?_; intro w9 hB9; have hv := HV0.out w9 hB9)
                exact hv
            · have e2 : decide (x.podSlot < 2048) = false := by simpa using h1
              have hv := HR.out _ HB2.out
              rw [show fitsS S x = false by unfold fitsS; rw [if_neg k1, if_neg k2, if_neg k3, if_pos k4, ht, e1, e2]; simp] at hv
              go_wp2_with fail
              exact hv
      have q4 : (x.kind == 4) = false := by simpa using k4
      by_cases k5 : x.kind = 5
      · have q5 : (x.kind == 5) = true := by simpa using k5
        cases ht : (S.nodes x.slot).isSome with
        | false =>
          have hv := HR.out _ HB2.out
          rw [show fitsS S x = false by unfold fitsS; rw [if_neg k1, if_neg k2, if_neg k3, if_neg k4, if_pos k5, ht]; simp] at hv
          go_wp2_with fail
          exact hv
        | true =>
          cases hg : (S.guests x.podSlot).isSome with
          | false =>
            have hv := HR.out _ HB2.out
            rw [show fitsS S x = false by unfold fitsS; rw [if_neg k1, if_neg k2, if_neg k3, if_neg k4, if_pos k5, ht, hg]; simp] at hv
            go_wp2_with fail
            exact hv
          | true =>
            obtain ⟨⟨gl, gq⟩, hgg⟩ := Option.isSome_iff_exists.1 hg
            have hn := HND.out gl gq hgg
            subst hn
            have hv := HR.out _ HB2.out
            rw [show fitsS S x = (nd == x.slot) by unfold fitsS; rw [if_neg k1, if_neg k2, if_neg k3, if_neg k4, if_pos k5, ht, hg]; unfold guestAtB; rw [hgg]; simp] at hv
            go_wp2_with fail
            exact hv
      have q5 : (x.kind == 5) = false := by simpa using k5
      have hv := HR.out _ HB2.out
      rw [show fitsS S x = false by unfold fitsS; rw [if_neg k1, if_neg k2, if_neg k3, if_neg k4, if_neg k5]] at hv
      go_wp2_with fail
      exact hv
end Go.Proofs.YtmenipaibjifiaaGreatDoor
