/-
domain: Apply, a pod goes.
domain: Apply, a node is set anew.
domain: Apply of a nil Domains; cluster: New; Slots, PodSlots of a nil Cluster.
-/
import Derived.Test.YtmenipaibjifiaaGreatDoorR40
import Derived.Test.YtmenipaibjifiaaGreatDoorR39
set_option linter.unusedVariables false
set_option linter.unusedSimpArgs false
namespace Go.Proofs.YtmenipaibjifiaaGreatDoor
open Go.RowKit Go.BigFrame

set_option maxRecDepth 100000 in
set_option maxHeartbeats 40000000 in
theorem dapplyGone_k (R : Ending → World → Prop) (w : World) (h : Hdr) (own : Own') (S : St) (ok : Nat → Prop) (x : Chg) (cs : List Value) (P : Pre w h own S) (hok : ∀ k, ok k → k < w.heap.size ∧ ¬ Mut own k) (hx : chgK w ok x cs) (hs : ChgFit x) (hG : GOk w)
    (hk : x.kind = 5) (hf : fitsS S x = true) (hnode : ∀ s ls, S.nodes s = some ls → ls.length ≤ 1048576)
    (hR : ∀ w', DomAt w' h own (delPod S x.slot x.podSlot) → Mod (Mut own) w w' → R (.returned (.int .i64 0)) w') :
    Calls Tryz.prog 12 #[.pointer (some ⟨h.d, 0, none⟩), .agg cs.toArray] w R := by
  have D := P.D
  have I := P.I
  have hx0 := hx
  obtain ⟨vla, vta, vca, vlb, vtb, vcb, vplc, vpnc, vptc, vpac, vppc, rfl, hn1, hn2, hp3⟩ := chg_form hx
  have hs0 := hs
  obtain ⟨s1, s2⟩ := hs
  obtain ⟨_, _, _, en, hnl, _, _⟩ := hn2
  obtain ⟨_, _, _, _, _, ep, hpl, _, _, _, _⟩ := hp3
  simp only [List.cons.injEq, and_true, true_and] at en ep
  obtain ⟨rfl, rfl, rfl⟩ := en
  obtain ⟨rfl, rfl, rfl, rfl, rfl⟩ := ep
  have HR := Lib.hid hR
  have HOK := Lib.hid hok
  have HFF := Lib.hid hf
  clear hR hx hf
  have HKD := Lib.hid hk
  clear hk
  have t0 : Below w.heap.size w (w.alloc (.cells #[.int .i64 x.kind, .int .i64 x.slot, .int .i64 x.podSlot, .string x.was.name, vla, vta, vca, .bool x.was.cord, .string x.now.name, vlb, vtb, vcb, .bool x.now.cord, .string x.pod.name, vplc, vpnc, vptc, .string x.pod.req, vpac, vppc, .int .i64 x.pod.prio] 42)) := Below.alloc (Below.refl _ _) (Nat.le_refl _) _
  have oc0 : (w.alloc (.cells #[.int .i64 x.kind, .int .i64 x.slot, .int .i64 x.podSlot, .string x.was.name, vla, vta, vca, .bool x.was.cord, .string x.now.name, vlb, vtb, vcb, .bool x.now.cord, .string x.pod.name, vplc, vpnc, vptc, .string x.pod.req, vpac, vppc, .int .i64 x.pod.prio] 42)).heap[w.heap.size]? = some (.cells #[.int .i64 x.kind, .int .i64 x.slot, .int .i64 x.podSlot, .string x.was.name, vla, vta, vca, .bool x.was.cord, .string x.now.name, vlb, vtb, vcb, .bool x.now.cord, .string x.pod.name, vplc, vpnc, vptc, .string x.pod.req, vpac, vppc, .int .i64 x.pod.prio] 42) := heap_alloc_new _ _
  go_enter Tryz.func12, Tryz.ntmps12
  go_wp2_with (first | refine wpList_load_row rfl 42 _ rfl w.heap.size rfl 42 #[.int .i64 x.kind, .int .i64 x.slot, .int .i64 x.podSlot, .string x.was.name, vla, vta, vca, .bool x.was.cord, .string x.now.name, vlb, vtb, vcb, .bool x.now.cord, .string x.pod.name, vplc, vpnc, vptc, .string x.pod.req, vpac, vppc, .int .i64 x.pod.prio] (0, 0) _ oc0 Tryz.underlying42 rfl (by kernel_rfl) ?_)
  refine dfits_k _ _ h own S ok x [.int .i64 x.kind, .int .i64 x.slot, .int .i64 x.podSlot, .string x.was.name, vla, vta, vca, .bool x.was.cord, .string x.now.name, vlb, vtb, vcb, .bool x.now.cord, .string x.pod.name, vplc, vpnc, vptc, .string x.pod.req, vpac, vppc, .int .i64 x.pod.prio] (D.below t0) (fun k hk => by have := (HOK.out k hk).1; have := t0.size; omega) (chgOk.move hx0 (fun k hk => t0.block k (HOK.out k hk).1)) hs0 (GOk.below hG t0) (I.ons _) ?_
  intro w1 g1
  rw [HFF.out]
  have hB1 := t0.trans (g1.mono t0.size)
  have oc1 := (g1.block w.heap.size (by simp)).trans oc0
  clear oc0 t0 g1
  have hk := HKD.out
  have hf2 := HFF.out
  unfold fitsS at hf2
  rw [if_neg (by omega), if_neg (by omega), if_neg (by omega), if_neg (by omega), if_pos hk] at hf2
  simp only [Bool.and_eq_true, decide_eq_true_eq] at hf2
  have D1 := D.below hB1
  have c0 : w1.cell? ⟨w.heap.size, 0, none⟩ = some (.int .i64 x.kind) := cell_at oc1 rfl
  have c1 : w1.cell? ⟨w.heap.size, 1, none⟩ = some (.int .i64 x.slot) := cell_at oc1 rfl
  rw [hk] at c0
  have hown0 : own w.heap.size = none := D.lim _ (Nat.le_refl _)
  obtain ⟨⟨f1, f2⟩, f3⟩ := hf2
  have c2 : w1.cell? ⟨w.heap.size, 2, none⟩ = some (.int .i64 x.podSlot) := cell_at oc1 rfl
  have x0 : w1.cell? ⟨h.d, 0, none⟩ = some (.map (some h.n)) := cell_at D1.hd rfl
  obtain ⟨ws, hws⟩ := Option.isSome_iff_exists.1 ((I.ons x.slot).trans f1)
  obtain ⟨ls, hls⟩ := Option.isSome_iff_exists.1 f1
  have hnl2 : nodeL S x.slot = ls := by unfold nodeL; rw [hls]; rfl
  obtain ⟨mn, hmn, hmnf⟩ := D1.fn
  have hat := hmnf x.slot
  rw [hls] at hat
  obtain ⟨v, hv, hlab⟩ := hat.some_l
  obtain ⟨An, cn, en, _, _⟩ := SlK.form (show Labs w1 (fun b => own b = some .imm) v ls from hlab)
  subst en
  have l1 := (hmn.move (w' := w1.drew) rfl).lookup intK Tryz.underlying118 (z := .slice none 0 0) (by kernel_rfl) x.slot false
  rw [hv] at l1
  simp only [Bool.false_eq_true, if_false, Option.getD_some] at l1
  have hll : ls.length ≤ 1048576 := hnode x.slot ls hls
  have hia2 : ∀ l, l ∈ ls → (S.areas (spotOf l)).isSome = true := fun l hl => I.area (s := x.slot) (by rw [hnl2]; exact hl)
  have HLAB := Lib.hid (show Labs w1 (fun b => own b = some .imm) (.slice An ls.length cn) ls from hlab)
  have HD1 := Lib.hid D1
  have HOC := Lib.hid oc1
  have HB1 := Lib.hid hB1
  have HIA := Lib.hid hia2
  have HNL := Lib.hid hnl2
  have HWS := Lib.hid hws
  have HFW := Lib.hid P.few
  have HSM := Lib.hid I.a.small
  clear hat hmnf hmn hv hlab D1 oc1 hB1 hia2 hnl2 hls hws hnl hpl hn1 hx0 hk
  go_wp2_with fail
  go_region
  all_goals (
    go_wp2_with fail
    go_loopw [115] (fun i wr => ∃ k : Nat, k ≤ ls.length ∧ i = .int .i64 k ∧ DomAt wr h own (enterNode S (ls.take k) x.podSlot (-1)) ∧ Mod (Mut own) w1 wr ∧ wr.heap[w.heap.size]? = some (.cells #[.int .i64 x.kind, .int .i64 x.slot, .int .i64 x.podSlot, .string x.was.name, vla, vta, vca, .bool x.was.cord, .string x.now.name, vlb, vtb, vcb, .bool x.now.cord, .string x.pod.name, vplc, vpnc, vptc, .string x.pod.req, vpac, vppc, .int .i64 x.pod.prio] 42)) (fun i _ => ls.length - (intOf i).toNat)
    case atStart => exact ⟨0, Nat.zero_le _, rfl, HD1.out.drew, (Mod.refl _ w1).drew, HOC.out⟩
    case round =>
      obtain ⟨k, hk, rfl, Dk, hMk, hbk⟩ := hrel
      have hlr : Labs wr (fun b => own b = some .imm ∧ b < w1.heap.size) (.slice An ls.length cn) ls := SlK.move labOk (SlK.bnd labOk HLAB.out) (fun j hj => hMk.block j hj.2 (fun hx => hx.2 hj.1))
      by_cases hkl : k < ls.length
      · obtain ⟨b, off, c', he, _, _, hbk2, hbl, hce⟩ := hlr.addr (by omega)
        simp only [Value.slice.injEq] at he
        obtain ⟨rfl, -, rfl⟩ := he
        obtain ⟨d0, d1⟩ := lab_cells hce k hkl
        clear hce hlr
        have z2 : wr.cell? ⟨w.heap.size, 2, none⟩ = some (.int .i64 x.podSlot) := cell_at hbk rfl
        have z2' := cell_old z2 (.cells #[.string (ls[k]'hkl).key, .string (ls[k]'hkl).val] 108)
        have hsk := small_enterNode (n := -1) (by omega) (ls.take k) x.podSlot HFW.out HSM.out (by omega)
        have hlk : (ls.take k).length = k := by rw [List.length_take]; omega
        rw [hlk] at hsk
        obtain ⟨ff1, _, _, _, ff5⟩ := enterNode_fields x.podSlot (-1) (ls.take k) S
        have hia : ((enterNode S (ls.take k) x.podSlot (-1)).areas (spotOf (ls[k]'hkl))).isSome = true := by rw [ff5]; exact HIA.out _ (List.getElem_mem hkl)
        have hfl : (guestL (enterNode S (ls.take k) x.podSlot (-1)) x.podSlot).length ≤ 1048576 := by rw [guestL_congr ff1]; have := HFW.out x.podSlot; omega
        have HDk := Lib.hid Dk
        have HMk := Lib.hid hMk
        have HBk := Lib.hid hbk
        clear Dk hMk hbk ff1 ff5 hlk
        go_wp2_with fail
        refine enterMinus_d _ _ h own _ (spotOf (ls[k]'hkl)) x.podSlot (2048 + 32 * (k : Int)) (HDk.out.alloc _) hia (by omega) hsk hfl ?_
        intro w6 hD6 hM6
        have e1 : enterS (enterNode S (ls.take k) x.podSlot (-1)) (spotOf (ls[k]'hkl)) x.podSlot (-1) = enterNode S (ls.take (k + 1)) x.podSlot (-1) := by
          rw [List.take_succ_eq_append_getElem hkl]; unfold enterNode; rw [List.foldl_append]; rfl
        rw [e1] at hD6
        have hM7 : Mod (Mut own) w1 w6 := (HMk.out.seq (((Mod.refl Non wr).alloc _).non_to)).seq hM6
        have hb7 := hM6.keep (heap_keep HBk.out _) (fun e => e.1 hown0)
        have HD6 := Lib.hid hD6
        have HM7 := Lib.hid hM7
        have HB7 := Lib.hid hb7
        clear hD6 hM7 hb7 hM6 e1 z2' hsk hia hfl
        go_wp2_with fail
        go_roundw
        case rel => exact ⟨k + 1, by omega, by go_num, HD6.out, HM7.out, HB7.out⟩
        case measure => simp [intOf]; omega
      · obtain rfl : k = ls.length := by omega
        rw [List.take_length] at Dk
        obtain ⟨W, hW⟩ : ∃ W, W = wr := ⟨_, rfl⟩
        subst hW
        have HMk := Lib.hid hMk
        have HBk := Lib.hid hbk
        obtain ⟨S2, hS2⟩ : ∃ S2 : St, S2 = enterNode S ls x.podSlot (-1) := ⟨_, rfl⟩
        rw [← hS2] at Dk
        obtain ⟨_, _, gf3, _, _⟩ := enterNode_fields x.podSlot (-1) ls S
        have HS2 := Lib.hid hS2
        have hon2 : S2.on x.slot = some ws := by rw [hS2, gf3]; exact HWS.out
        have x2 : W.cell? ⟨h.d, 2, none⟩ = some (.map (some h.o)) := cell_at Dk.hd rfl
        have y1 : W.cell? ⟨w.heap.size, 1, none⟩ = some (.int .i64 x.slot) := cell_at hbk rfl
        have y2 : W.cell? ⟨w.heap.size, 2, none⟩ = some (.int .i64 x.podSlot) := cell_at hbk rfl
        obtain ⟨m, hm, hmf⟩ := Dk.fo
        have hat := hmf x.slot
        rw [hon2] at hat
        obtain ⟨v, hv, sO, bO, rfl, hSO, oO, iO⟩ := hat.some_l
        have l2 := (hm.move (w' := W.drew) rfl).lookup intK Tryz.underlying120 (z := .pointer none) (by kernel_rfl) x.slot false
        rw [hv] at l2
        simp only [Bool.false_eq_true, if_false, Option.getD_some] at l2
        have hx : ∀ b, own b = none → ¬ b = bO := fun b ob e => by rw [← e, ob] at oO; cases oO
        have hxd : ¬ h.d = bO := fun e => by have h1 := Dk.od; rw [e, oO] at h1; cases h1
        have HK := Lib.hid (show ∀ w', Mod (fun j => j = bO) W w' → Mod (fun j => j = bO) W w' ∧ w'.cell? ⟨h.d, 2, none⟩ = some (.map (some h.o)) ∧ w'.cell? ⟨w.heap.size, 1, none⟩ = some (.int .i64 x.slot) ∧ w'.cell? ⟨w.heap.size, 2, none⟩ = some (.int .i64 x.podSlot) from
          fun w' hw => ⟨hw, hw.cell' x2 hxd, hw.cell' y1 (hx _ hown0), hw.cell' y2 (hx _ hown0)⟩)
        have HDk := Lib.hid Dk
        have HSO := Lib.hid hSO
        have HMm := Lib.hid hm
        have HMF := Lib.hid hmf
        have HV := Lib.hid hv
        obtain ⟨S3, hS3⟩ : ∃ S3 : St, S3 = { S2 with on := upd S2.on x.slot (some (delW 2048 ws x.podSlot)) } := ⟨_, rfl⟩
        have HS3 := Lib.hid hS3
        clear hlr hbk Dk hMk hSO hm hmf hv hat hS2 hS3 gf3 hon2 l1 c0 c1 c2 x0
        go_wp2_with fail
        go_cut [115] (fun _ wr => DomAt wr h own S3 ∧ Mod (Mut own) w1 wr ∧ wr.heap[w.heap.size]? = some (.cells #[.int .i64 x.kind, .int .i64 x.slot, .int .i64 x.podSlot, .string x.was.name, vla, vta, vca, .bool x.was.cord, .string x.now.name, vlb, vtb, vcb, .bool x.now.cord, .string x.pod.name, vplc, vpnc, vptc, .string x.pod.req, vpac, vppc, .int .i64 x.pod.prio] 42))
        case first =>
          go_region_held3 (fun w' => Mod (fun j => j = bO) W w' ∧ w'.cell? ⟨h.d, 2, none⟩ = some (.map (some h.o)) ∧ w'.cell? ⟨w.heap.size, 1, none⟩ = some (.int .i64 x.slot) ∧ w'.cell? ⟨w.heap.size, 2, none⟩ = some (.int .i64 x.podSlot))
            (first
            | exact HK.out _ ((Mod.refl _ W).drew)
            | exact HK.out _ yM)
            (first
            | (go_at_call 61; refine remove_k _ _ sO bO 2048 ws x.podSlot (HSO.out.move rfl rfl) ?_; intro vb w4 hM4 hS4
               have yM : Mod (fun j => j = bO) W w4 := (Mod.refl (fun j => j = bO) W).drew.trans hM4 (fun _ _ e => e)))
          all_goals (
            go_wp2_with fail
            go_meet
            have zD := HDk.out.setOn oO yM hS4 HMm.out HMF.out HV.out iO
            exact ⟨by rw [HS3.out]; exact zD, HMk.out.seq (yM.to_mut oO (by simp)), yM.keep HBk.out (hx _ hown0)⟩)
        case rest =>
          obtain ⟨D3, M3, b3⟩ := hcut
          have x1 : wc.cell? ⟨h.d, 1, none⟩ = some (.map (some h.g)) := cell_at D3.hd rfl
          have y3 : wc.cell? ⟨w.heap.size, 2, none⟩ = some (.int .i64 x.podSlot) := cell_at b3 rfl
          clear HK HDk HSO HMm HMF HV l2 x2 y1 y2 hx hxd
          obtain ⟨m, hm, hmf⟩ := D3.fg
          obtain ⟨oU, zu, zm⟩ := (hm.move (w' := wc.drew) rfl).delete (ty := 0) intK Tryz.underlying119 x.podSlot
          have zP : Mod (fun j => j = h.g) wc (putObj wc.drew h.g oU) := ((Mod.refl (fun j => j = h.g) wc).drew).put (fun _ => rfl) _
          have zD := D3.delGuest zP hm.nodup hmf zm
          have nA0 : ¬ w.heap.size = h.g := fun e => by have := D3.og; rw [← e, hown0] at this; cases this
          have nAd : ¬ h.d = h.g := fun e => by have h1 := D3.og; rw [← e, D3.od] at h1; cases h1
          obtain ⟨_, _, gf3, _, _⟩ := enterNode_fields x.podSlot (-1) ls S
          have hv := HR.out (putObj wc.drew h.g oU) (by
            unfold delPod onDel
            rw [HNL.out]
            simp only [gf3, HWS.out]
            rw [HS3.out, HS2.out] at zD
            rw [gf3] at zD
            exact zD) ((((Mod.of_below HB1.out).non_to (X := Mut own)).seq M3).seq (zP.to_mut D3.og (by simp)))
          have HK := Lib.hid (show ∀ w', Mod (fun j => j = h.g) wc w' → Mod (fun j => j = h.g) wc w' ∧ w'.cell? ⟨h.d, 1, none⟩ = some (.map (some h.g)) ∧ w'.cell? ⟨w.heap.size, 2, none⟩ = some (.int .i64 x.podSlot) from
            fun w' hw => ⟨hw, hw.cell' x1 nAd, hw.cell' y3 nA0⟩)
          have HZP := Lib.hid zP
          have HV := Lib.hid hv
          clear hv zP zD zm hmf hm D3 M3 b3 gf3
          go_wp2_with fail
          go_region_held3 (fun w' => Mod (fun j => j = h.g) wc w' ∧ w'.cell? ⟨h.d, 1, none⟩ = some (.map (some h.g)) ∧ w'.cell? ⟨w.heap.size, 2, none⟩ = some (.int .i64 x.podSlot))
            (first
            | exact HK.out _ ((Mod.refl _ wc).drew)
            | exact HK.out _ HZP.out)
            (fail)
          all_goals (
            have hv := HV.out
            go_wp2_with fail
            exact hv))
end Go.Proofs.YtmenipaibjifiaaGreatDoor

namespace Go.Proofs.YtmenipaibjifiaaGreatDoor
open Go.RowKit Go.BigFrame

set_option maxRecDepth 100000 in
set_option maxHeartbeats 40000000 in
theorem dapplySet_k (R : Ending → World → Prop) (w : World) (h : Hdr) (own : Own') (S : St) (ok : Nat → Prop) (x : Chg) (cs : List Value) (P : Pre w h own S) (hok : ∀ k, ok k → k < w.heap.size ∧ ¬ Mut own k) (hx : chgK w ok x cs) (hs : ChgFit x) (hG : GOk w)
    (hk : x.kind = 3) (hf : fitsS S x = true) (hnode : ∀ s ls, S.nodes s = some ls → ls.length ≤ 1048576)
    (hR : ∀ own' w', DomAt w' h own' (setNode S x.slot x.now.labels) → Ext w own own' → Mod (Mut own) w w' → R (.returned (.int .i64 0)) w') :
    Calls Tryz.prog 12 #[.pointer (some ⟨h.d, 0, none⟩), .agg cs.toArray] w R := by
  have D := P.D
  have I := P.I
  have hx0 := hx
  obtain ⟨vla, vta, vca, vlb, vtb, vcb, vplc, vpnc, vptc, vpac, vppc, rfl, hn1, hn2, hp3⟩ := chg_form hx
  have hs0 := hs
  obtain ⟨s1, s2⟩ := hs
  obtain ⟨_, _, _, en, hnl, _, _⟩ := hn2
  obtain ⟨_, _, _, _, _, ep, hpl, _, _, _, _⟩ := hp3
  simp only [List.cons.injEq, and_true, true_and] at en ep
  obtain ⟨rfl, rfl, rfl⟩ := en
  obtain ⟨rfl, rfl, rfl, rfl, rfl⟩ := ep
  have HR := Lib.hid hR
  have HOK := Lib.hid hok
  have HFF := Lib.hid hf
  clear hR hx hf
  have HKD := Lib.hid hk
  clear hk
  have t0 : Below w.heap.size w (w.alloc (.cells #[.int .i64 x.kind, .int .i64 x.slot, .int .i64 x.podSlot, .string x.was.name, vla, vta, vca, .bool x.was.cord, .string x.now.name, vlb, vtb, vcb, .bool x.now.cord, .string x.pod.name, vplc, vpnc, vptc, .string x.pod.req, vpac, vppc, .int .i64 x.pod.prio] 42)) := Below.alloc (Below.refl _ _) (Nat.le_refl _) _
  have oc0 : (w.alloc (.cells #[.int .i64 x.kind, .int .i64 x.slot, .int .i64 x.podSlot, .string x.was.name, vla, vta, vca, .bool x.was.cord, .string x.now.name, vlb, vtb, vcb, .bool x.now.cord, .string x.pod.name, vplc, vpnc, vptc, .string x.pod.req, vpac, vppc, .int .i64 x.pod.prio] 42)).heap[w.heap.size]? = some (.cells #[.int .i64 x.kind, .int .i64 x.slot, .int .i64 x.podSlot, .string x.was.name, vla, vta, vca, .bool x.was.cord, .string x.now.name, vlb, vtb, vcb, .bool x.now.cord, .string x.pod.name, vplc, vpnc, vptc, .string x.pod.req, vpac, vppc, .int .i64 x.pod.prio] 42) := heap_alloc_new _ _
  go_enter Tryz.func12, Tryz.ntmps12
  go_wp2_with (first | refine wpList_load_row rfl 42 _ rfl w.heap.size rfl 42 #[.int .i64 x.kind, .int .i64 x.slot, .int .i64 x.podSlot, .string x.was.name, vla, vta, vca, .bool x.was.cord, .string x.now.name, vlb, vtb, vcb, .bool x.now.cord, .string x.pod.name, vplc, vpnc, vptc, .string x.pod.req, vpac, vppc, .int .i64 x.pod.prio] (0, 0) _ oc0 Tryz.underlying42 rfl (by kernel_rfl) ?_)
  refine dfits_k _ _ h own S ok x [.int .i64 x.kind, .int .i64 x.slot, .int .i64 x.podSlot, .string x.was.name, vla, vta, vca, .bool x.was.cord, .string x.now.name, vlb, vtb, vcb, .bool x.now.cord, .string x.pod.name, vplc, vpnc, vptc, .string x.pod.req, vpac, vppc, .int .i64 x.pod.prio] (D.below t0) (fun k hk => by have := (HOK.out k hk).1; have := t0.size; omega) (chgOk.move hx0 (fun k hk => t0.block k (HOK.out k hk).1)) hs0 (GOk.below hG t0) (I.ons _) ?_
  intro w1 g1
  rw [HFF.out]
  have hB1 := t0.trans (g1.mono t0.size)
  have oc1 := (g1.block w.heap.size (by simp)).trans oc0
  clear oc0 t0 g1
  have hk := HKD.out
  have hf2 := HFF.out
  unfold fitsS at hf2
  rw [if_neg (by omega), if_neg (by omega), if_pos hk] at hf2
  simp only [Bool.and_eq_true, decide_eq_true_eq] at hf2
  have D1 := D.below hB1
  have c0 : w1.cell? ⟨w.heap.size, 0, none⟩ = some (.int .i64 x.kind) := cell_at oc1 rfl
  have c1 : w1.cell? ⟨w.heap.size, 1, none⟩ = some (.int .i64 x.slot) := cell_at oc1 rfl
  rw [hk] at c0
  have hown0 : own w.heap.size = none := D.lim _ (Nat.le_refl _)
  obtain ⟨f1, f4⟩ := hf2
  have hl32 := chk_len f4
  have c9 : w1.cell? ⟨w.heap.size, 9, none⟩ = some vlb := cell_at oc1 rfl
  obtain ⟨Ab, cb, eb, _, _⟩ := hnl.form
  subst eb
  obtain ⟨ls, hls⟩ := Option.isSome_iff_exists.1 f1
  have hnl2 : nodeL S x.slot = ls := by unfold nodeL; rw [hls]; rfl
  have HNL := Lib.hid hnl2
  have HLS := Lib.hid hls
  have HD1 := Lib.hid D1
  have HOC := Lib.hid oc1
  have HB1 := Lib.hid hB1
  have HNW := Lib.hid hnl
  have hll := Lib.hid (hnode x.slot ls hls)
  clear D1 oc1 hB1 hnl hpl hn1 hx0 hk hnl2 hls
  go_wp2_with fail
  refine quit_d _ _ h own S x.slot ls HD1.out I P.few HLS.out hll.out ?_
  intro w2 D2 M2
  have oc2 := M2.keep HOC.out (fun e => e.1 hown0)
  have y0 : w2.cell? ⟨w.heap.size, 0, none⟩ = some (.int .i64 x.kind) := cell_at oc2 rfl
  have y1 : w2.cell? ⟨w.heap.size, 1, none⟩ = some (.int .i64 x.slot) := cell_at oc2 rfl
  have hM := Lib.hid (((Mod.of_below HB1.out).non_to (X := Mut own)).seq M2)
  have y9 : w2.cell? ⟨w.heap.size, 9, none⟩ = some (.slice Ab x.now.labels.length cb) := cell_at oc2 rfl
  obtain ⟨b1, b2, _⟩ := I.nb _ _ HLS.out
  obtain ⟨kk, hkk⟩ : ∃ k : Nat, x.slot = k := ⟨x.slot.toNat, by omega⟩
  have hA := I.quit (k := kk) (by omega) (by rw [← hkk]; exact HLS.out)
  rw [← hkk] at hA
  obtain ⟨ws, hws⟩ := Option.isSome_iff_exists.1 ((I.ons x.slot).trans f1)
  obtain ⟨qf1, qf2, qf3⟩ := quitFold_fields x.slot (onL S x.slot) ls S
  have hon2 : (quitS S x.slot ls).on x.slot = some ws := by
    show ((ls.foldl (quitOne x.slot (onL S x.slot)) S).on x.slot) = some ws
    rw [qf3]; exact hws
  have hfew2 : Few (quitS S x.slot ls) := P.few.of qf1
  have hms := hM.out.size
  have hsm2 : Small (quitS S x.slot ls) 2048 := hA.small
  have hav2 : AV (quitS S x.slot ls) := fun b hb => hA.av b hb
  clear hA
  obtain ⟨S2, hS2⟩ : ∃ S2, quitS S x.slot ls = S2 := ⟨_, rfl⟩
  rw [hS2] at hsm2 hav2 hon2 hfew2 D2
  have HD2 := Lib.hid D2
  have HS2 := Lib.hid hS2
  have HSM := Lib.hid hsm2
  have HAV := Lib.hid hav2
  have HON := Lib.hid hon2
  have HFW := Lib.hid hfew2
  have HB := Lib.hid (show 0 ≤ x.slot ∧ x.slot < 512 from ⟨b1, b2⟩)
  clear D2 M2 oc2 qf1 qf2 qf3 hS2 hsm2 hav2 hon2 hfew2 hkk b1 b2 hws
  go_wp2_with fail
  refine join_d _ _ h _ _ x.slot _ x.now.labels ok ws 2048 HD2.out (fun k hk => ⟨Nat.lt_of_lt_of_le (HOK.out k hk).1 hms, (HOK.out k hk).2⟩) (SlK.move labOk HNW.out (fun k hk => hM.out.block k (HOK.out k hk).1 (HOK.out k hk).2)) hl32 HB.out HAV.out HON.out HFW.out (by decide) HSM.out ?_
  intro own4 w4 D4 E4 M4
  have hv := HR.out own4 w4 (by unfold setNode; rw [HNL.out, HS2.out]; exact D4) (fun k hk => E4 k (Nat.lt_of_lt_of_le hk hms)) (hM.out.seq M4)
  go_wp2_with fail
  exact hv
end Go.Proofs.YtmenipaibjifiaaGreatDoor

namespace Go.Proofs.YtmenipaibjifiaaGreatDoor
open Go.RowKit Go.BigFrame

set_option maxRecDepth 100000 in
set_option maxHeartbeats 4000000 in
theorem dapplyNil_k (R : Ending → World → Prop) (w : World) (ok : Nat → Prop) (x : Chg) (cs : List Value) (hx : chgK w ok x cs) (hR : ∀ w', Below w.heap.size w w' → R (.returned (.int .i64 1)) w') :
    Calls Tryz.prog 12 #[.pointer none, .agg cs.toArray] w R := by
  obtain ⟨vla, vta, vca, vlb, vtb, vcb, vplc, vpnc, vptc, vpac, vppc, rfl, hn1, hn2, hp3⟩ := chg_form hx
  have HR := Lib.hid hR
  clear hR hx hn1 hn2 hp3
  go_enter Tryz.func12, Tryz.ntmps12
  go_wp2_with fail
  exact HR.out _ (Below.alloc (Below.refl _ _) (Nat.le_refl _) _)
end Go.Proofs.YtmenipaibjifiaaGreatDoor
