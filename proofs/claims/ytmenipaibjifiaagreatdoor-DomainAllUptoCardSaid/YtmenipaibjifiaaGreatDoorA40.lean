/-
domain: Apply, a pod goes.
domain: Apply, a node is set anew.
bitset.Or, And, OrWith; domain: Nodes, Pods, stands.
bitset: OrWith.
domain: Apply of a nil Domains; cluster: New; Slots, PodSlots of a nil Cluster.
-/
import Derived.Test.YtmenipaibjifiaaGreatDoorA39
import Derived.Test.YtmenipaibjifiaaGreatDoorA38
import Derived.Deep.RegionHeld3
set_option linter.unusedVariables false
set_option linter.unusedSimpArgs false
namespace Go.Proofs.YtmenipaibjifiaaGreatDoor
open Go.RowKit Go.BigFrame

set_option maxRecDepth 100000 in
set_option maxHeartbeats 40000000 in
theorem dapplyGone_k (R : Ending → World → Prop) (w : World) (h : Hdr) (own : Own') (S : St) (ok : Nat → Prop) (x : Chg) (cs : List Value) (P : Pre w h own S) (hok : ∀ k, ok k → k < w.heap.size ∧ ¬ Mut own k) (hx : chgK w ok x cs) (hs : ChgFit x) (hG : GOk w)
    (hk : x.kind = 5) (hf : fitsS S x = true) (hnode : ∀ s ls, S.nodes s = some ls → ls.length ≤ 1048576)
    (hR : ∀ w', DomAt w' h own (delPod S x.slot x.podSlot) → Mod (Mut own) w w' → R (.returned (.int .i64 0)) w') :
    Calls Tryz.prog 12 #[.pointer (some ⟨h.d, 0, none⟩), .agg cs.toArray] w R := by
  have D := P.D
  have I := P.I
  have hx0 := hx
  obtain ⟨vla, vta, vca, vlb, vtb, vcb, vplc, vpnc, vptc, vpac, vppc, rfl, hn1, hn2, hp3⟩ := chg_form hx
  have hs0 := hs
  obtain ⟨s1, s2⟩ := hs
  obtain ⟨_, _, _, en, hnl, _, _⟩ := hn2
  obtain ⟨_, _, _, _, _, ep, hpl, _, _, _, _⟩ := hp3
  simp only [List.cons.injEq, and_true, true_and] at en ep
  obtain ⟨rfl, rfl, rfl⟩ := en
  obtain ⟨rfl, rfl, rfl, rfl, rfl⟩ := ep
  have HR := Lib.hid hR
  have HOK := Lib.hid hok
  have HFF := Lib.hid hf
  clear hR hx hf
  have HKD := Lib.hid hk
  clear hk
  have t0 : Below w.heap.size w (w.alloc (.cells #[.int .i64 x.kind, .int .i64 x.slot, .int .i64 x.podSlot, .string x.was.name, vla, vta, vca, .bool x.was.cord, .string x.now.name, vlb, vtb, vcb, .bool x.now.cord, .string x.pod.name, vplc, vpnc, vptc, .string x.pod.req, vpac, vppc, .int .i64 x.pod.prio] 42)) := Below.alloc (Below.refl _ _) (Nat.le_refl _) _
  have oc0 : (w.alloc (.cells #[.int .i64 x.kind, .int .i64 x.slot, .int .i64 x.podSlot, .string x.was.name, vla, vta, vca, .bool x.was.cord, .string x.now.name, vlb, vtb, vcb, .bool x.now.cord, .string x.pod.name, vplc, vpnc, vptc, .string x.pod.req, vpac, vppc, .int .i64 x.pod.prio] 42)).heap[w.heap.size]? = some (.cells #[.int .i64 x.kind, .int .i64 x.slot, .int .i64 x.podSlot, .string x.was.name, vla, vta, vca, .bool x.was.cord, .string x.now.name, vlb, vtb, vcb, .bool x.now.cord, .string x.pod.name, vplc, vpnc, vptc, .string x.pod.req, vpac, vppc, .int .i64 x.pod.prio] 42) := heap_alloc_new _ _
  go_enter Tryz.func12, Tryz.ntmps12
  go_wp2_with (first | refine wpList_load_row rfl 42 _ rfl w.heap.size rfl 42 #[.int .i64 x.kind, .int .i64 x.slot, .int .i64 x.podSlot, .string x.was.name, vla, vta, vca, .bool x.was.cord, .string x.now.name, vlb, vtb, vcb, .bool x.now.cord, .string x.pod.name, vplc, vpnc, vptc, .string x.pod.req, vpac, vppc, .int .i64 x.pod.prio] (0, 0) _ oc0 Tryz.underlying42 rfl (by kernel_rfl) ?_)
  refine dfits_k _ _ h own S ok x [.int .i64 x.kind, .int .i64 x.slot, .int .i64 x.podSlot, .string x.was.name, vla, vta, vca, .bool x.was.cord, .string x.now.name, vlb, vtb, vcb, .bool x.now.cord, .string x.pod.name, vplc, vpnc, vptc, .string x.pod.req, vpac, vppc, .int .i64 x.pod.prio] (D.below t0) (fun k hk => by have := (HOK.out k hk).1; have := t0.size; omega) (chgOk.move hx0 (fun k hk => t0.block k (HOK.out k hk).1)) hs0 (GOk.below hG t0) (I.ons _) ?_
  intro w1 g1
  rw [HFF.out]
  have hB1 := t0.trans (g1.mono t0.size)
  have oc1 := (g1.block w.heap.size (by simp)).trans oc0
  clear oc0 t0 g1
  have hk := HKD.out
  have hf2 := HFF.out
  unfold fitsS at hf2
  rw [if_neg (by omega), if_neg (by omega), if_neg (by omega), if_neg (by omega), if_pos hk] at hf2
  simp only [Bool.and_eq_true, decide_eq_true_eq] at hf2
  have D1 := D.below hB1
  have c0 : w1.cell? ⟨w.heap.size, 0, none⟩ = some (.int .i64 x.kind) := cell_at oc1 rfl
  have c1 : w1.cell? ⟨w.heap.size, 1, none⟩ = some (.int .i64 x.slot) := cell_at oc1 rfl
  rw [hk] at c0
  have hown0 : own w.heap.size = none := D.lim _ (Nat.le_refl _)
  obtain ⟨⟨f1, f2⟩, f3⟩ := hf2
  have c2 : w1.cell? ⟨w.heap.size, 2, none⟩ = some (.int .i64 x.podSlot) := cell_at oc1 rfl
  have x0 : w1.cell? ⟨h.d, 0, none⟩ = some (.map (some h.n)) := cell_at D1.hd rfl
  obtain ⟨ws, hws⟩ := Option.isSome_iff_exists.1 ((I.ons x.slot).trans f1)
  obtain ⟨ls, hls⟩ := Option.isSome_iff_exists.1 f1
  have hnl2 : nodeL S x.slot = ls := by unfold nodeL; rw [hls]; rfl
  obtain ⟨mn, hmn, hmnf⟩ := D1.fn
  have hat := hmnf x.slot
  rw [hls] at hat
  obtain ⟨v, hv, hlab⟩ := hat.some_l
  obtain ⟨An, cn, en, _, _⟩ := SlK.form (show Labs w1 (fun b => own b = some .imm) v ls from hlab)
  subst en
  have l1 := (hmn.move (w' := w1.drew) rfl).lookup intK Tryz.underlying118 (z := .slice none 0 0) (by kernel_rfl) x.slot false
  rw [hv] at l1
  simp only [Bool.false_eq_true, if_false, Option.getD_some] at l1
  have hll : ls.length ≤ 1048576 := hnode x.slot ls hls
  have hia2 : ∀ l, l ∈ ls → (S.areas (spotOf l)).isSome = true := fun l hl => I.area (s := x.slot) (by rw [hnl2]; exact hl)
  have HLAB := Lib.hid (show Labs w1 (fun b => own b = some .imm) (.slice An ls.length cn) ls from hlab)
  have HD1 := Lib.hid D1
  have HOC := Lib.hid oc1
  have HB1 := Lib.hid hB1
  have HIA := Lib.hid hia2
  have HNL := Lib.hid hnl2
  have HWS := Lib.hid hws
  have HFW := Lib.hid P.few
  have HSM := Lib.hid I.a.small
  clear hat hmnf hmn hv hlab D1 oc1 hB1 hia2 hnl2 hls hws hnl hpl hn1 hx0 hk
  go_wp2_with fail
  go_region
  all_goals (
    go_wp2_with fail
    go_loopw [115] (fun i wr => ∃ k : Nat, k ≤ ls.length ∧ i = .int .i64 k ∧ DomAt wr h own (enterNode S (ls.take k) x.podSlot (-1)) ∧ Mod (Mut own) w1 wr ∧ wr.heap[w.heap.size]? = some (.cells #[.int .i64 x.kind, .int .i64 x.slot, .int .i64 x.podSlot, .string x.was.name, vla, vta, vca, .bool x.was.cord, .string x.now.name, vlb, vtb, vcb, .bool x.now.cord, .string x.pod.name, vplc, vpnc, vptc, .string x.pod.req, vpac, vppc, .int .i64 x.pod.prio] 42)) (fun i _ => ls.length - (intOf i).toNat)
    case atStart => exact ⟨0, Nat.zero_le _, rfl, HD1.out.drew, (Mod.refl _ w1).drew, HOC.out⟩
    case round =>
      obtain ⟨k, hk, rfl, Dk, hMk, hbk⟩ := hrel
      have hlr : Labs wr (fun b => own b = some .imm ∧ b < w1.heap.size) (.slice An ls.length cn) ls := SlK.move labOk (SlK.bnd labOk HLAB.out) (fun j hj => hMk.block j hj.2 (fun hx => hx.2 hj.1))
      by_cases hkl : k < ls.length
      · obtain ⟨b, off, c', he, _, _, hbk2, hbl, hce⟩ := hlr.addr (by omega)
        simp only [Value.slice.injEq] at he
        obtain ⟨rfl, -, rfl⟩ := he
        obtain ⟨d0, d1⟩ := lab_cells hce k hkl
        clear hce hlr
        have z2 : wr.cell? ⟨w.heap.size, 2, none⟩ = some (.int .i64 x.podSlot) := cell_at hbk rfl
        have z2' := cell_old z2 (.cells #[.string (ls[k]'hkl).key, .string (ls[k]'hkl).val] 108)
        have hsk := small_enterNode (n := -1) (by omega) (ls.take k) x.podSlot HFW.out HSM.out (by omega)
        have hlk : (ls.take k).length = k := by rw [List.length_take]; omega
        rw [hlk] at hsk
        obtain ⟨ff1, _, _, _, ff5⟩ := enterNode_fields x.podSlot (-1) (ls.take k) S
        have hia : ((enterNode S (ls.take k) x.podSlot (-1)).areas (spotOf (ls[k]'hkl))).isSome = true := by rw [ff5]; exact HIA.out _ (List.getElem_mem hkl)
        have hfl : (guestL (enterNode S (ls.take k) x.podSlot (-1)) x.podSlot).length ≤ 1048576 := by rw [guestL_congr ff1]; have := HFW.out x.podSlot; omega
        have HDk := Lib.hid Dk
        have HMk := Lib.hid hMk
        have HBk := Lib.hid hbk
        clear Dk hMk hbk ff1 ff5 hlk
        go_wp2_with fail
        refine enterMinus_d _ _ h own _ (spotOf (ls[k]'hkl)) x.podSlot (2048 + 32 * (k : Int)) (HDk.out.alloc _) hia (by omega) hsk hfl ?_
        intro w6 hD6 hM6
        have e1 : enterS (enterNode S (ls.take k) x.podSlot (-1)) (spotOf (ls[k]'hkl)) x.podSlot (-1) = enterNode S (ls.take (k + 1)) x.podSlot (-1) := by
          rw [List.take_succ_eq_append_getElem hkl]; unfold enterNode; rw [List.foldl_append]; rfl
        rw [e1] at hD6
        have hM7 : Mod (Mut own) w1 w6 := (HMk.out.seq (((Mod.refl Non wr).alloc _).non_to)).seq hM6
        have hb7 := hM6.keep (heap_keep HBk.out _) (fun e => e.1 hown0)
        have HD6 := Lib.hid hD6
        have HM7 := Lib.hid hM7
        have HB7 := Lib.hid hb7
        clear hD6 hM7 hb7 hM6 e1 z2' hsk hia hfl
        go_wp2_with fail
        go_roundw
        case rel => exact ⟨k + 1, by omega, by go_num, HD6.out, HM7.out, HB7.out⟩
        case measure => simp [intOf]; omega
      · obtain rfl : k = ls.length := by omega
        rw [List.take_length] at Dk
        obtain ⟨W, hW⟩ : ∃ W, W = wr := ⟨_, rfl⟩
        subst hW
        have HMk := Lib.hid hMk
        have HBk := Lib.hid hbk
        obtain ⟨S2, hS2⟩ : ∃ S2 : St, S2 = enterNode S ls x.podSlot (-1) := ⟨_, rfl⟩
        rw [← hS2] at Dk
        obtain ⟨_, _, gf3, _, _⟩ := enterNode_fields x.podSlot (-1) ls S
        have HS2 := Lib.hid hS2
        have hon2 : S2.on x.slot = some ws := by rw [hS2, gf3]; exact HWS.out
        have x2 : W.cell? ⟨h.d, 2, none⟩ = some (.map (some h.o)) := cell_at Dk.hd rfl
        have y1 : W.cell? ⟨w.heap.size, 1, none⟩ = some (.int .i64 x.slot) := cell_at hbk rfl
        have y2 : W.cell? ⟨w.heap.size, 2, none⟩ = some (.int .i64 x.podSlot) := cell_at hbk rfl
        obtain ⟨m, hm, hmf⟩ := Dk.fo
        have hat := hmf x.slot
        rw [hon2] at hat
        obtain ⟨v, hv, sO, bO, rfl, hSO, oO, iO⟩ := hat.some_l
        have l2 := (hm.move (w' := W.drew) rfl).lookup intK Tryz.underlying120 (z := .pointer none) (by kernel_rfl) x.slot false
        rw [hv] at l2
        simp only [Bool.false_eq_true, if_false, Option.getD_some] at l2
        have hx : ∀ b, own b = none → ¬ b = bO := fun b ob e => by rw [← e, ob] at oO; cases oO
        have hxd : ¬ h.d = bO := fun e => by have h1 := Dk.od; rw [e, oO] at h1; cases h1
        have HK := Lib.hid (show ∀ w', Mod (fun j => j = bO) W w' → Mod (fun j => j = bO) W w' ∧ w'.cell? ⟨h.d, 2, none⟩ = some (.map (some h.o)) ∧ w'.cell? ⟨w.heap.size, 1, none⟩ = some (.int .i64 x.slot) ∧ w'.cell? ⟨w.heap.size, 2, none⟩ = some (.int .i64 x.podSlot) from
          fun w' hw => ⟨hw, hw.cell' x2 hxd, hw.cell' y1 (hx _ hown0), hw.cell' y2 (hx _ hown0)⟩)
        have HDk := Lib.hid Dk
        have HSO := Lib.hid hSO
        have HMm := Lib.hid hm
        have HMF := Lib.hid hmf
        have HV := Lib.hid hv
        obtain ⟨S3, hS3⟩ : ∃ S3 : St, S3 = { S2 with on := upd S2.on x.slot (some (delW 2048 ws x.podSlot)) } := ⟨_, rfl⟩
        have HS3 := Lib.hid hS3
        clear hlr hbk Dk hMk hSO hm hmf hv hat hS2 hS3 gf3 hon2 l1 c0 c1 c2 x0
        go_wp2_with fail
        go_cut [115] (fun _ wr => DomAt wr h own S3 ∧ Mod (Mut own) w1 wr ∧ wr.heap[w.heap.size]? = some (.cells #[.int .i64 x.kind, .int .i64 x.slot, .int .i64 x.podSlot, .string x.was.name, vla, vta, vca, .bool x.was.cord, .string x.now.name, vlb, vtb, vcb, .bool x.now.cord, .string x.pod.name, vplc, vpnc, vptc, .string x.pod.req, vpac, vppc, .int .i64 x.pod.prio] 42))
        case first =>
          go_region_held3 (fun w' => Mod (fun j => j = bO) W w' ∧ w'.cell? ⟨h.d, 2, none⟩ = some (.map (some h.o)) ∧ w'.cell? ⟨w.heap.size, 1, none⟩ = some (.int .i64 x.slot) ∧ w'.cell? ⟨w.heap.size, 2, none⟩ = some (.int .i64 x.podSlot))
            (first
            | exact HK.out _ ((Mod.refl _ W).drew)
            | exact HK.out _ yM)
            (first
            | (go_at_call 61; refine remove_k _ _ sO bO 2048 ws x.podSlot (HSO.out.move rfl rfl) ?_; intro vb w4 hM4 hS4
               have yM : Mod (fun j => j = bO) W w4 := (Mod.refl (fun j => j = bO) W).drew.trans hM4 (fun _ _ e => e)))
          all_goals (
            go_wp2_with fail
            go_meet
            have zD := HDk.out.setOn oO yM hS4 HMm.out HMF.out HV.out iO
            exact ⟨by rw [HS3.out]; exact zD, HMk.out.seq (yM.to_mut oO (by simp)), yM.keep HBk.out (hx _ hown0)⟩)
        case rest =>
          obtain ⟨D3, M3, b3⟩ := hcut
          have x1 : wc.cell? ⟨h.d, 1, none⟩ = some (.map (some h.g)) := cell_at D3.hd rfl
          have y3 : wc.cell? ⟨w.heap.size, 2, none⟩ = some (.int .i64 x.podSlot) := cell_at b3 rfl
          clear HK HDk HSO HMm HMF HV l2 x2 y1 y2 hx hxd
          obtain ⟨m, hm, hmf⟩ := D3.fg
          obtain ⟨oU, zu, zm⟩ := (hm.move (w' := wc.drew) rfl).delete (ty := 0) intK Tryz.underlying119 x.podSlot
          have zP : Mod (fun j => j = h.g) wc (putObj wc.drew h.g oU) := ((Mod.refl (fun j => j = h.g) wc).drew).put (fun _ => rfl) _
          have zD := D3.delGuest zP hm.nodup hmf zm
          have nA0 : ¬ w.heap.size = h.g := fun e => by have := D3.og; rw [← e, hown0] at this; cases this
          have nAd : ¬ h.d = h.g := fun e => by have h1 := D3.og; rw [← e, D3.od] at h1; cases h1
          obtain ⟨_, _, gf3, _, _⟩ := enterNode_fields x.podSlot (-1) ls S
          have hv := HR.out (putObj wc.drew h.g oU) (by
            unfold delPod onDel
            rw [HNL.out]
            simp only [gf3, HWS.out]
            rw [HS3.out, HS2.out] at zD
            rw [gf3] at zD
            exact zD) ((((Mod.of_below HB1.out).non_to (X := Mut own)).seq M3).seq (zP.to_mut D3.og (by simp)))
          have HK := Lib.hid (show ∀ w', Mod (fun j => j = h.g) wc w' → Mod (fun j => j = h.g) wc w' ∧ w'.cell? ⟨h.d, 1, none⟩ = some (.map (some h.g)) ∧ w'.cell? ⟨w.heap.size, 2, none⟩ = some (.int .i64 x.podSlot) from
            fun w' hw => ⟨hw, hw.cell' x1 nAd, hw.cell' y3 nA0⟩)
          have HZP := Lib.hid zP
          have HV := Lib.hid hv
          clear hv zP zD zm hmf hm D3 M3 b3 gf3
          go_wp2_with fail
          go_region_held3 (fun w' => Mod (fun j => j = h.g) wc w' ∧ w'.cell? ⟨h.d, 1, none⟩ = some (.map (some h.g)) ∧ w'.cell? ⟨w.heap.size, 2, none⟩ = some (.int .i64 x.podSlot))
            (first
            | exact HK.out _ ((Mod.refl _ wc).drew)
            | exact HK.out _ HZP.out)
            (fail)
          all_goals (
            have hv := HV.out
            go_wp2_with fail
            exact hv))
end Go.Proofs.YtmenipaibjifiaaGreatDoor

namespace Go.Proofs.YtmenipaibjifiaaGreatDoor
open Go.RowKit Go.BigFrame

set_option maxRecDepth 100000 in
set_option maxHeartbeats 40000000 in
theorem dapplySet_k (R : Ending → World → Prop) (w : World) (h : Hdr) (own : Own') (S : St) (ok : Nat → Prop) (x : Chg) (cs : List Value) (P : Pre w h own S) (hok : ∀ k, ok k → k < w.heap.size ∧ ¬ Mut own k) (hx : chgK w ok x cs) (hs : ChgFit x) (hG : GOk w)
    (hk : x.kind = 3) (hf : fitsS S x = true) (hnode : ∀ s ls, S.nodes s = some ls → ls.length ≤ 1048576)
    (hR : ∀ own' w', DomAt w' h own' (setNode S x.slot x.now.labels) → Ext w own own' → Mod (Mut own) w w' → R (.returned (.int .i64 0)) w') :
    Calls Tryz.prog 12 #[.pointer (some ⟨h.d, 0, none⟩), .agg cs.toArray] w R := by
  have D := P.D
  have I := P.I
  have hx0 := hx
  obtain ⟨vla, vta, vca, vlb, vtb, vcb, vplc, vpnc, vptc, vpac, vppc, rfl, hn1, hn2, hp3⟩ := chg_form hx
  have hs0 := hs
  obtain ⟨s1, s2⟩ := hs
  obtain ⟨_, _, _, en, hnl, _, _⟩ := hn2
  obtain ⟨_, _, _, _, _, ep, hpl, _, _, _, _⟩ := hp3
  simp only [List.cons.injEq, and_true, true_and] at en ep
  obtain ⟨rfl, rfl, rfl⟩ := en
  obtain ⟨rfl, rfl, rfl, rfl, rfl⟩ := ep
  have HR := Lib.hid hR
  have HOK := Lib.hid hok
  have HFF := Lib.hid hf
  clear hR hx hf
  have HKD := Lib.hid hk
  clear hk
  have t0 : Below w.heap.size w (w.alloc (.cells #[.int .i64 x.kind, .int .i64 x.slot, .int .i64 x.podSlot, .string x.was.name, vla, vta, vca, .bool x.was.cord, .string x.now.name, vlb, vtb, vcb, .bool x.now.cord, .string x.pod.name, vplc, vpnc, vptc, .string x.pod.req, vpac, vppc, .int .i64 x.pod.prio] 42)) := Below.alloc (Below.refl _ _) (Nat.le_refl _) _
  have oc0 : (w.alloc (.cells #[.int .i64 x.kind, .int .i64 x.slot, .int .i64 x.podSlot, .string x.was.name, vla, vta, vca, .bool x.was.cord, .string x.now.name, vlb, vtb, vcb, .bool x.now.cord, .string x.pod.name, vplc, vpnc, vptc, .string x.pod.req, vpac, vppc, .int .i64 x.pod.prio] 42)).heap[w.heap.size]? = some (.cells #[.int .i64 x.kind, .int .i64 x.slot, .int .i64 x.podSlot, .string x.was.name, vla, vta, vca, .bool x.was.cord, .string x.now.name, vlb, vtb, vcb, .bool x.now.cord, .string x.pod.name, vplc, vpnc, vptc, .string x.pod.req, vpac, vppc, .int .i64 x.pod.prio] 42) := heap_alloc_new _ _
  go_enter Tryz.func12, Tryz.ntmps12
  go_wp2_with (first | refine wpList_load_row rfl 42 _ rfl w.heap.size rfl 42 #[.int .i64 x.kind, .int .i64 x.slot, .int .i64 x.podSlot, .string x.was.name, vla, vta, vca, .bool x.was.cord, .string x.now.name, vlb, vtb, vcb, .bool x.now.cord, .string x.pod.name, vplc, vpnc, vptc, .string x.pod.req, vpac, vppc, .int .i64 x.pod.prio] (0, 0) _ oc0 Tryz.underlying42 rfl (by kernel_rfl) ?_)
  refine dfits_k _ _ h own S ok x [.int .i64 x.kind, .int .i64 x.slot, .int .i64 x.podSlot, .string x.was.name, vla, vta, vca, .bool x.was.cord, .string x.now.name, vlb, vtb, vcb, .bool x.now.cord, .string x.pod.name, vplc, vpnc, vptc, .string x.pod.req, vpac, vppc, .int .i64 x.pod.prio] (D.below t0) (fun k hk => by have := (HOK.out k hk).1; have := t0.size; omega) (chgOk.move hx0 (fun k hk => t0.block k (HOK.out k hk).1)) hs0 (GOk.below hG t0) (I.ons _) ?_
  intro w1 g1
  rw [HFF.out]
  have hB1 := t0.trans (g1.mono t0.size)
  have oc1 := (g1.block w.heap.size (by simp)).trans oc0
  clear oc0 t0 g1
  have hk := HKD.out
  have hf2 := HFF.out
  unfold fitsS at hf2
  rw [if_neg (by omega), if_neg (by omega), if_pos hk] at hf2
  simp only [Bool.and_eq_true, decide_eq_true_eq] at hf2
  have D1 := D.below hB1
  have c0 : w1.cell? ⟨w.heap.size, 0, none⟩ = some (.int .i64 x.kind) := cell_at oc1 rfl
  have c1 : w1.cell? ⟨w.heap.size, 1, none⟩ = some (.int .i64 x.slot) := cell_at oc1 rfl
  rw [hk] at c0
  have hown0 : own w.heap.size = none := D.lim _ (Nat.le_refl _)
  obtain ⟨f1, f4⟩ := hf2
  have hl32 := chk_len f4
  have c9 : w1.cell? ⟨w.heap.size, 9, none⟩ = some vlb := cell_at oc1 rfl
  obtain ⟨Ab, cb, eb, _, _⟩ := hnl.form
  subst eb
  obtain ⟨ls, hls⟩ := Option.isSome_iff_exists.1 f1
  have hnl2 : nodeL S x.slot = ls := by unfold nodeL; rw [hls]; rfl
  have HNL := Lib.hid hnl2
  have HLS := Lib.hid hls
  have HD1 := Lib.hid D1
  have HOC := Lib.hid oc1
  have HB1 := Lib.hid hB1
  have HNW := Lib.hid hnl
  have hll := Lib.hid (hnode x.slot ls hls)
  clear D1 oc1 hB1 hnl hpl hn1 hx0 hk hnl2 hls
  go_wp2_with fail
  refine quit_d _ _ h own S x.slot ls HD1.out I P.few HLS.out hll.out ?_
  intro w2 D2 M2
  have oc2 := M2.keep HOC.out (fun e => e.1 hown0)
  have y0 : w2.cell? ⟨w.heap.size, 0, none⟩ = some (.int .i64 x.kind) := cell_at oc2 rfl
  have y1 : w2.cell? ⟨w.heap.size, 1, none⟩ = some (.int .i64 x.slot) := cell_at oc2 rfl
  have hM := Lib.hid (((Mod.of_below HB1.out).non_to (X := Mut own)).seq M2)
  have y9 : w2.cell? ⟨w.heap.size, 9, none⟩ = some (.slice Ab x.now.labels.length cb) := cell_at oc2 rfl
  obtain ⟨b1, b2, _⟩ := I.nb _ _ HLS.out
  obtain ⟨kk, hkk⟩ : ∃ k : Nat, x.slot = k := ⟨x.slot.toNat, by omega⟩
  have hA := I.quit (k := kk) (by omega) (by rw [← hkk]; exact HLS.out)
  rw [← hkk] at hA
  obtain ⟨ws, hws⟩ := Option.isSome_iff_exists.1 ((I.ons x.slot).trans f1)
  obtain ⟨qf1, qf2, qf3⟩ := quitFold_fields x.slot (onL S x.slot) ls S
  have hon2 : (quitS S x.slot ls).on x.slot = some ws := by
    show ((ls.foldl (quitOne x.slot (onL S x.slot)) S).on x.slot) = some ws
    rw [qf3]; exact hws
  have hfew2 : Few (quitS S x.slot ls) := P.few.of qf1
  have hms := hM.out.size
  have hsm2 : Small (quitS S x.slot ls) 2048 := hA.small
  have hav2 : AV (quitS S x.slot ls) := fun b hb => hA.av b hb
  clear hA
  obtain ⟨S2, hS2⟩ : ∃ S2, quitS S x.slot ls = S2 := ⟨_, rfl⟩
  rw [hS2] at hsm2 hav2 hon2 hfew2 D2
  have HD2 := Lib.hid D2
  have HS2 := Lib.hid hS2
  have HSM := Lib.hid hsm2
  have HAV := Lib.hid hav2
  have HON := Lib.hid hon2
  have HFW := Lib.hid hfew2
  have HB := Lib.hid (show 0 ≤ x.slot ∧ x.slot < 512 from ⟨b1, b2⟩)
  clear D2 M2 oc2 qf1 qf2 qf3 hS2 hsm2 hav2 hon2 hfew2 hkk b1 b2 hws
  go_wp2_with fail
  refine join_d _ _ h _ _ x.slot _ x.now.labels ok ws 2048 HD2.out (fun k hk => ⟨Nat.lt_of_lt_of_le (HOK.out k hk).1 hms, (HOK.out k hk).2⟩) (SlK.move labOk HNW.out (fun k hk => hM.out.block k (HOK.out k hk).1 (HOK.out k hk).2)) hl32 HB.out HAV.out HON.out HFW.out (by decide) HSM.out ?_
  intro own4 w4 D4 E4 M4
  have hv := HR.out own4 w4 (by unfold setNode; rw [HNL.out, HS2.out]; exact D4) (fun k hk => E4 k (Nat.lt_of_lt_of_le hk hms)) (hM.out.seq M4)
  go_wp2_with fail
  exact hv
end Go.Proofs.YtmenipaibjifiaaGreatDoor

namespace Go.Proofs.YtmenipaibjifiaaGreatDoor
open Go.RowKit Go.BigFrame

set_option maxRecDepth 100000 in
theorem or_k (R : Ending → World → Prop) (w : World) (ok : Nat → Prop) (va vb : Value) (n m : Nat) (x y : List Nat) (hok : ∀ k, ok k → k < w.heap.size) (ha : SetP w ok va n x) (hb : SetP w ok vb m y)
    (hR : ∀ s b w', Below w.heap.size w w' → w.heap.size ≤ s → w.heap.size ≤ b → SetIn w' s b (max n m) (zipW (· ||| ·) ((max n m + 63) / 64) x y) → R (.returned (.pointer (some ⟨s, 0, none⟩))) w') :
    Calls Tryz.prog 80 #[va, vb] w R := by
  have HR := Lib.hid hR
  clear hR
  go_enter Tryz.func80, Tryz.ntmps80
  go_wp2_with fail
  refine joinedOr_k _ _ ok va vb n m (max n m) x y hok ha hb rfl ?_
  intro s b w1 h1 h2 h3 h4
  have hv := HR.out s b w1 h1 h2 h3 h4
  clear h1 h2 h3 h4
  go_wp2_with fail
  exact hv
set_option maxRecDepth 100000 in
theorem and_k (R : Ending → World → Prop) (w : World) (ok : Nat → Prop) (va vb : Value) (n m : Nat) (x y : List Nat) (hok : ∀ k, ok k → k < w.heap.size) (ha : SetP w ok va n x) (hb : SetP w ok vb m y)
    (hR : ∀ s b w', Below w.heap.size w w' → w.heap.size ≤ s → w.heap.size ≤ b → SetIn w' s b (max n m) (zipW (· &&& ·) ((max n m + 63) / 64) x y) → R (.returned (.pointer (some ⟨s, 0, none⟩))) w') :
    Calls Tryz.prog 165 #[va, vb] w R := by
  have HR := Lib.hid hR
  clear hR
  go_enter Tryz.func165, Tryz.ntmps165
  go_wp2_with fail
  refine joinedAnd_k _ _ ok va vb n m (max n m) x y hok ha hb rfl ?_
  intro s b w1 h1 h2 h3 h4
  have hv := HR.out s b w1 h1 h2 h3 h4
  clear h1 h2 h3 h4
  go_wp2_with fail
  exact hv
theorem SetP.any {w : World} {ok : Nat → Prop} {v : Value} {n : Nat} {ws : List Nat} (h : SetP w ok v n ws) : SetP w (fun k => k < w.heap.size) v n ws := h.move (fun _ _ _ => rfl) (fun _ _ hk => hk)
theorem setA_n (S : St) (b : Spot) : max 512 (setA S b).1.1 = 512 ∧ max 2048 (setA S b).2.1 = 2048 := by
  unfold setA
  split <;> exact ⟨rfl, rfl⟩
set_option maxRecDepth 100000 in
set_option maxHeartbeats 4000000 in
theorem nodes_d (R : Ending → World → Prop) (w : World) (h : Hdr) (own : Own') (S : St) (key val : ByteArray) (D : DomAt w h own S)
    (hR : ∀ s b ws w', Below w.heap.size w w' → w.heap.size ≤ s → w.heap.size ≤ b → SetIn w' s b 512 ws → (∀ i, i < 512 → memW ws i = memW (setA S (key, val)).1.2 i) → R (.returned (.pointer (some ⟨s, 0, none⟩))) w') :
    Calls Tryz.prog 22 #[.pointer (some ⟨h.d, 0, none⟩), .string key, .string val] w R := by
  have HR := Lib.hid hR
  have HD := Lib.hid D
  clear hR D
  go_enter Tryz.func22, Tryz.ntmps22
  go_wp2_with fail
  refine bitmap_k _ _ 512 (by decide) ?_
  intro s1 b1 w1 g1 g2 g3 hS1
  have HG1 := Lib.hid g1
  have HS1 := Lib.hid hS1
  clear g1 hS1 g2 g3
  go_wp2_with fail
  refine area_d _ _ h own S key val (HD.out.below HG1.out) ?_
  intro v1 v2 w2 g4 hA hP
  have HG4 := Lib.hid g4
  have HA := Lib.hid hA
  have l2 := area_nodes v1 v2 w2
  clear g4 hA hP
  go_wp2_with fail
  have hb2 := HG1.out.trans (HG4.out.mono HG1.out.size)
  refine or_k _ _ (fun k => k < w2.heap.size) _ v1 512 (setA S (key, val)).1.1 _ (setA S (key, val)).1.2 (fun _ hk => hk) (.inr ⟨s1, b1, rfl, HS1.out.move (HG4.out.block _ HS1.out.lt.1) (HG4.out.block _ HS1.out.lt.2), Nat.lt_of_lt_of_le HS1.out.lt.1 HG4.out.size, Nat.lt_of_lt_of_le HS1.out.lt.2 HG4.out.size⟩) HA.out.any ?_
  intro s b w3 g5 g6 g7 hS3
  rw [(setA_n S (key, val)).1] at hS3
  have hv := HR.out s b _ w3 (hb2.trans (g5.mono hb2.size)) (Nat.le_trans hb2.size g6) (Nat.le_trans hb2.size g7) hS3 (fun i hi => by rw [memW_or _ _ _ _ (by omega), memW_zero]; simp)
  clear g5 g6 g7 hS3 hb2
  go_wp2_with fail
  exact hv
set_option maxRecDepth 100000 in
set_option maxHeartbeats 4000000 in
theorem pods_d (R : Ending → World → Prop) (w : World) (h : Hdr) (own : Own') (S : St) (key val : ByteArray) (D : DomAt w h own S)
    (hR : ∀ s b ws w', Below w.heap.size w w' → w.heap.size ≤ s → w.heap.size ≤ b → SetIn w' s b 2048 ws → (∀ i, i < 2048 → memW ws i = memW (setA S (key, val)).2.2 i) → R (.returned (.pointer (some ⟨s, 0, none⟩))) w') :
    Calls Tryz.prog 23 #[.pointer (some ⟨h.d, 0, none⟩), .string key, .string val] w R := by
  have HR := Lib.hid hR
  have HD := Lib.hid D
  clear hR D
  go_enter Tryz.func23, Tryz.ntmps23
  go_wp2_with fail
  refine bitmap_k _ _ 2048 (by decide) ?_
  intro s1 b1 w1 g1 g2 g3 hS1
  have HG1 := Lib.hid g1
  have HS1 := Lib.hid hS1
  clear g1 hS1 g2 g3
  go_wp2_with fail
  refine area_d _ _ h own S key val (HD.out.below HG1.out) ?_
  intro v1 v2 w2 g4 hA hP
  have HG4 := Lib.hid g4
  have HP := Lib.hid hP
  have l2 := area_pods v1 v2 w2
  clear g4 hA hP
  go_wp2_with fail
  have hb2 := HG1.out.trans (HG4.out.mono HG1.out.size)
  refine or_k _ _ (fun k => k < w2.heap.size) _ v2 2048 (setA S (key, val)).2.1 _ (setA S (key, val)).2.2 (fun _ hk => hk) (.inr ⟨s1, b1, rfl, HS1.out.move (HG4.out.block _ HS1.out.lt.1) (HG4.out.block _ HS1.out.lt.2), Nat.lt_of_lt_of_le HS1.out.lt.1 HG4.out.size, Nat.lt_of_lt_of_le HS1.out.lt.2 HG4.out.size⟩) HP.out.any ?_
  intro s b w3 g5 g6 g7 hS3
  rw [(setA_n S (key, val)).2] at hS3
  have hv := HR.out s b _ w3 (hb2.trans (g5.mono hb2.size)) (Nat.le_trans hb2.size g6) (Nat.le_trans hb2.size g7) hS3 (fun i hi => by rw [memW_or _ _ _ _ (by omega), memW_zero]; simp)
  clear g5 g6 g7 hS3 hb2
  go_wp2_with fail
  exact hv
/-- Of a nil Domains: an empty set. -/
theorem nodesNil_k (R : Ending → World → Prop) (w : World) (key val : ByteArray)
    (hR : ∀ s b ws w', Below w.heap.size w w' → w.heap.size ≤ s → w.heap.size ≤ b → SetIn w' s b 512 ws → (∀ i, i < 512 → memW ws i = false) → R (.returned (.pointer (some ⟨s, 0, none⟩))) w') :
    Calls Tryz.prog 22 #[.pointer none, .string key, .string val] w R := by
  have HR := Lib.hid hR
  clear hR
  go_enter Tryz.func22, Tryz.ntmps22
  go_wp2_with fail
  refine bitmap_k _ _ 512 (by decide) ?_
  intro s1 b1 w1 g1 g2 g3 hS1
  have HG1 := Lib.hid g1
  have HS1 := Lib.hid hS1
  clear g1 hS1 g2 g3
  go_wp2_with fail
  refine areaNil_k _ _ key val ?_
  intro w2 g4
  have HG4 := Lib.hid g4
  have l2 := area_nodes (.pointer none) (.pointer none) w2
  clear g4
  go_wp2_with fail
  have hb2 := HG1.out.trans (HG4.out.mono HG1.out.size)
  refine or_k _ _ (fun k => k < w2.heap.size) _ (.pointer none) 512 0 _ [] (fun _ hk => hk) (.inr ⟨s1, b1, rfl, HS1.out.move (HG4.out.block _ HS1.out.lt.1) (HG4.out.block _ HS1.out.lt.2), Nat.lt_of_lt_of_le HS1.out.lt.1 HG4.out.size, Nat.lt_of_lt_of_le HS1.out.lt.2 HG4.out.size⟩) (.inl ⟨rfl, rfl, rfl⟩) ?_
  intro s b w3 g5 g6 g7 hS3
  have hv := HR.out s b _ w3 (hb2.trans (g5.mono hb2.size)) (Nat.le_trans hb2.size g6) (Nat.le_trans hb2.size g7) hS3 (fun i hi => by rw [memW_or _ _ _ _ (by omega), memW_zero, memW_nil]; rfl)
  clear g5 g6 g7 hS3 hb2
  go_wp2_with fail
  exact hv
theorem podsNil_k (R : Ending → World → Prop) (w : World) (key val : ByteArray)
    (hR : ∀ s b ws w', Below w.heap.size w w' → w.heap.size ≤ s → w.heap.size ≤ b → SetIn w' s b 2048 ws → (∀ i, i < 2048 → memW ws i = false) → R (.returned (.pointer (some ⟨s, 0, none⟩))) w') :
    Calls Tryz.prog 23 #[.pointer none, .string key, .string val] w R := by
  have HR := Lib.hid hR
  clear hR
  go_enter Tryz.func23, Tryz.ntmps23
  go_wp2_with fail
  refine bitmap_k _ _ 2048 (by decide) ?_
  intro s1 b1 w1 g1 g2 g3 hS1
  have HG1 := Lib.hid g1
  have HS1 := Lib.hid hS1
  clear g1 hS1 g2 g3
  go_wp2_with fail
  refine areaNil_k _ _ key val ?_
  intro w2 g4
  have HG4 := Lib.hid g4
  have l2 := area_pods (.pointer none) (.pointer none) w2
  clear g4
  go_wp2_with fail
  have hb2 := HG1.out.trans (HG4.out.mono HG1.out.size)
  refine or_k _ _ (fun k => k < w2.heap.size) _ (.pointer none) 2048 0 _ [] (fun _ hk => hk) (.inr ⟨s1, b1, rfl, HS1.out.move (HG4.out.block _ HS1.out.lt.1) (HG4.out.block _ HS1.out.lt.2), Nat.lt_of_lt_of_le HS1.out.lt.1 HG4.out.size, Nat.lt_of_lt_of_le HS1.out.lt.2 HG4.out.size⟩) (.inl ⟨rfl, rfl, rfl⟩) ?_
  intro s b w3 g5 g6 g7 hS3
  have hv := HR.out s b _ w3 (hb2.trans (g5.mono hb2.size)) (Nat.le_trans hb2.size g6) (Nat.le_trans hb2.size g7) hS3 (fun i hi => by rw [memW_or _ _ _ _ (by omega), memW_zero, memW_nil]; rfl)
  clear g5 g6 g7 hS3 hb2
  go_wp2_with fail
  exact hv
/-- Does a stand so to b? -/
def standsB (a : Int) (c : Int) (b : Int) : Bool :=
  if c = 1 then a == b else if c = 2 then a != b else if c = 3 then decide (a < b) else if c = 4 then decide (a ≤ b) else if c = 5 then decide (b < a) else if c = 6 then decide (b ≤ a) else false
theorem stands_k (R : Ending → World → Prop) (w : World) (a c b : Int) (hR : R (.returned (.bool (standsB a c b))) w) :
    Calls Tryz.prog 89 #[.int .i64 a, .int .i64 c, .int .i64 b] w R := by
  have HR := Lib.hid hR
  clear hR
  have hv := HR.out
  unfold standsB at hv
  by_cases h1 : c = 1
  · rw [if_pos h1] at hv
    subst h1
    go_enter Tryz.func89, Tryz.ntmps89
    go_wp2_with fail
    exact hv
  rw [if_neg h1] at hv
  have q1 : (c == 1) = false := by simpa using h1
  by_cases h2 : c = 2
  · rw [if_pos h2] at hv
    subst h2
    go_enter Tryz.func89, Tryz.ntmps89
    go_wp2_with fail
    exact hv
  rw [if_neg h2] at hv
  have q2 : (c == 2) = false := by simpa using h2
  by_cases h3 : c = 3
  · rw [if_pos h3] at hv
    subst h3
    go_enter Tryz.func89, Tryz.ntmps89
    go_wp2_with fail
    exact hv
  rw [if_neg h3] at hv
  have q3 : (c == 3) = false := by simpa using h3
  by_cases h4 : c = 4
  · rw [if_pos h4] at hv
    subst h4
    go_enter Tryz.func89, Tryz.ntmps89
    go_wp2_with fail
    exact hv
  rw [if_neg h4] at hv
  have q4 : (c == 4) = false := by simpa using h4
  by_cases h5 : c = 5
  · rw [if_pos h5] at hv
    subst h5
    go_enter Tryz.func89, Tryz.ntmps89
    go_wp2_with fail
    exact hv
  rw [if_neg h5] at hv
  have q5 : (c == 5) = false := by simpa using h5
  by_cases h6 : c = 6
  · rw [if_pos h6] at hv
    subst h6
    go_enter Tryz.func89, Tryz.ntmps89
    go_wp2_with fail
    exact hv
  rw [if_neg h6] at hv
  have q6 : (c == 6) = false := by simpa using h6
  clear h1 h2 h3 h4 h5 h6
  go_enter Tryz.func89, Tryz.ntmps89
  go_wp2_with fail
  exact hv
end Go.Proofs.YtmenipaibjifiaaGreatDoor

namespace Go.Proofs.YtmenipaibjifiaaGreatDoor
open Go.RowKit Go.BigFrame

def orTo (ws ys : List Nat) (k : Nat) : List Nat := (List.range ws.length).map fun j => if j < k then ws.getD j 0 ||| ys.getD j 0 else ws.getD j 0
theorem orTo_length (ws ys : List Nat) (k : Nat) : (orTo ws ys k).length = ws.length := by simp [orTo]
theorem orTo_zero (ws ys : List Nat) : orTo ws ys 0 = ws := by
  unfold orTo
  apply List.ext_getElem
  · simp
  · intro i h1 h2
    simp [List.getD_eq_getElem?_getD, h2]
theorem orTo_get (ws ys : List Nat) (k j : Nat) (h : j < ws.length) (hk : k ≤ j) : (orTo ws ys k).getD j 0 = ws.getD j 0 := by
  unfold orTo
  rw [List.getD_eq_getElem?_getD, List.getElem?_map, List.getElem?_range h]
  simp only [Option.map_some, Option.getD_some]
  rw [if_neg (by omega)]
theorem orTo_set (ws ys : List Nat) (k : Nat) : (orTo ws ys k).set k (ws.getD k 0 ||| ys.getD k 0) = orTo ws ys (k + 1) := by
  unfold orTo
  apply List.ext_getElem
  · simp
  · intro i h1 h2
    simp only [List.getElem_set, List.getElem_map, List.getElem_range]
    by_cases e : k = i
    · subst e; simp
    · rw [if_neg e]
      by_cases h : i < k
      · rw [if_pos h, if_pos (by omega)]
      · rw [if_neg h, if_neg (by omega)]
theorem orTo_all (ws ys : List Nat) : orTo ws ys ws.length = zipW (· ||| ·) ws.length ws ys := by
  unfold orTo zipW
  apply List.map_congr_left
  intro j hj
  rw [if_pos (List.mem_range.1 hj)]

set_option maxRecDepth 100000 in
set_option maxHeartbeats 4000000 in
theorem orWith_k (R : Ending → World → Prop) (w : World) (s b n : Nat) (ws : List Nat) (ok : Nat → Prop) (vt : Value) (m : Nat) (ys : List Nat) (hS : SetIn w s b n ws) (hn : n % 64 = 0) (hT : SetP w ok vt m ys) (hnb : ¬ ok b)
    (hR : ∀ w', Mod (fun k => k = b) w w' → SetIn w' s b n (zipW (· ||| ·) ws.length ws ys) → R (.returned (.tuple #[])) w') :
    Calls Tryz.prog 90 #[.pointer (some ⟨s, 0, none⟩), vt] w R := by
  have HR := Lib.hid hR
  clear hR
  obtain ⟨hsb, hs, hb, hl, hn2, hw⟩ := id hS
  have c1 : w.cell? ⟨s, 1, none⟩ = some (.slice (some ⟨b, 0, none⟩) ws.length ws.length) := cell_at hs rfl
  have HS := Lib.hid hS
  have HT := Lib.hid hT
  have hwl : ws.length ≤ 1024 := by omega
  clear hS hT hs hb hl
  go_enter Tryz.func90, Tryz.ntmps90
  go_wp2_with fail
  go_loopw [13] (fun i wr => ∃ k : Nat, k ≤ ws.length ∧ i = .int .i64 k ∧ Mod (fun k => k = b) w wr ∧ SetIn wr s b n (orTo ws ys k)) (fun i _ => ws.length - (intOf i).toNat)
  case atStart => exact ⟨0, Nat.zero_le _, rfl, Mod.refl _ _, by rw [orTo_zero]; exact HS.out⟩
  case round =>
    obtain ⟨k, hk, rfl, hM, hSr⟩ := hrel
    have d1 : wr.cell? ⟨s, 1, none⟩ = some (.slice (some ⟨b, 0, none⟩) (orTo ws ys k).length (orTo ws ys k).length) := cell_at hSr.2.1 rfl
    have d0 : wr.cell? ⟨s, 0, none⟩ = some (.int .i64 n) := cell_at hSr.2.1 rfl
    rw [orTo_length] at d1
    by_cases hkl : k < ws.length
    · have hj : k < (orTo ws ys k).length := by rw [orTo_length]; exact hkl
      have hTr : SetP wr ok vt m ys := HT.out.move (fun j hj hl => hM.block j hl (fun e => hnb (by rw [← e]; exact hj))) (fun _ h _ => h)
      have hgk : (orTo ws ys k)[k]'hj = ws.getD k 0 := by
        have := orTo_get ws ys k k hkl (Nat.le_refl _)
        rw [List.getD_eq_getElem?_getD, List.getElem?_eq_getElem hj] at this
        exact this
      have hx1 := hSr.2.2.2.2.2 _ (List.getElem_mem hj)
      rw [hgk] at hx1
      have hy1 := hTr.words k
      have hlt : ws.getD k 0 ||| ys.getD k 0 < 18446744073709551616 := Nat.or_lt_two_pow (n := 64) hx1 hy1
      obtain ⟨hS2, hM2⟩ := hSr.put hj hlt
      rw [orTo_set] at hS2
      have d3 := hSr.word hj
      rw [hgk] at d3
      have d2 : wr.frozen? ⟨b, k, none⟩ = false := by simp [World.frozen?, hSr.2.2.1]
      have eor := bits_or_u64_nat (ws.getD k 0) (ys.getD k 0) hx1 hy1
      have HS2 := Lib.hid hS2
      have HM2 := Lib.hid hM2
      have HM := Lib.hid hM
      have HTr := Lib.hid hTr
      have HEO := Lib.hid eor
      have dd1 : wr.drew.cell? ⟨s, 1, none⟩ = some (.slice (some ⟨b, 0, none⟩) ws.length ws.length) := d1
      have dd3 : wr.drew.cell? ⟨b, k, none⟩ = some (.int .u64 ((ws.getD k 0 : Nat) : Int)) := d3
      clear hS2 hM2 hM hTr hgk eor hSr hlt hx1 hy1
      go_wp2_with fail
      go_region_with (go_at_call 79; refine word_p _ _ ok vt m ys k ?_ ?_; exact HTr.out.move (fun _ _ _ => rfl) (fun _ h _ => h))
      all_goals go_wp2
      all_goals
        go_roundw
        case rel => exact ⟨k + 1, by omega, by go_num, by
            have h1 := HM2.out
            have h2 := HEO.out
            simp only [List.getD_eq_getElem?_getD, List.getElem?_eq_getElem hkl, Option.getD_some] at h1 h2
            rw [h2]
            exact HM.out.trans h1.drew (fun _ _ e => e), by
            have h1 := HS2.out
            have h2 := HEO.out
            simp only [List.getD_eq_getElem?_getD, List.getElem?_eq_getElem hkl, Option.getD_some] at h1 h2
            rw [h2]
            exact h1.move rfl rfl⟩
        case measure => simp [intOf]; omega
    · obtain rfl : k = ws.length := by omega
      rw [orTo_all] at hSr
      have hv := HR.out wr hM hSr
      have g2 : ((n : Int) % 64 == 0) = true := by simp; omega
      clear hSr hM
      go_wp2_with fail
      try go_end0
      exact hv
end Go.Proofs.YtmenipaibjifiaaGreatDoor

namespace Go.Proofs.YtmenipaibjifiaaGreatDoor
open Go.RowKit Go.BigFrame

set_option maxRecDepth 100000 in
set_option maxHeartbeats 4000000 in
theorem dapplyNil_k (R : Ending → World → Prop) (w : World) (ok : Nat → Prop) (x : Chg) (cs : List Value) (hx : chgK w ok x cs) (hR : ∀ w', Below w.heap.size w w' → R (.returned (.int .i64 1)) w') :
    Calls Tryz.prog 12 #[.pointer none, .agg cs.toArray] w R := by
  obtain ⟨vla, vta, vca, vlb, vtb, vcb, vplc, vpnc, vptc, vpac, vppc, rfl, hn1, hn2, hp3⟩ := chg_form hx
  have HR := Lib.hid hR
  clear hR hx hn1 hn2 hp3
  go_enter Tryz.func12, Tryz.ntmps12
  go_wp2_with fail
  exact HR.out _ (Below.alloc (Below.refl _ _) (Nat.le_refl _) _)
end Go.Proofs.YtmenipaibjifiaaGreatDoor
