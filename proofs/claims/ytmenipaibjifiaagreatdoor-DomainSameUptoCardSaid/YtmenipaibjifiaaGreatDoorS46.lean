/-
berthlaw09.DomainSame, walked: whatever changes are handed in, it returns true; it writes nothing that lay there.
A step of a script: a change, and a question behind it.
-/
import Derived.Test.YtmenipaibjifiaaGreatDoorS43
import Derived.Test.YtmenipaibjifiaaGreatDoorS45
import Derived.Deep.MidRow
import Derived.Test.YtmenipaibjifiaaGreatDoorS44
set_option linter.unusedVariables false
set_option linter.unusedSimpArgs false
namespace Go.Proofs.YtmenipaibjifiaaGreatDoor
open Go.RowKit Go.BigFrame Go.Shelf

theorem range_blk {w w' : World} {b o : Nat} {cs : List Value} (h : w.rangeAt b o cs) (hb : w'.heap[b]? = w.heap[b]?) : w'.rangeAt b o cs := fun j v hv => by
  rw [World.cell?_of_block (w := w) hb]; exact h j v hv
theorem chg_range {w : World} {b off k : Nat} {cx : List Value} (hcc : ∀ i u, cx[i]? = some u → w.cell? ⟨b, off + (k * 21 + i), none⟩ = some u) : w.rangeAt b (off + k * 21) cx := by
  intro j v hv
  rw [Nat.add_assoc]
  exact hcc j v hv
theorem rapply_f (R : Ending → World → Prop) (w : World) (ok : Nat → Prop) (d : RDom) (x : Chg) (cd cs : List Value) (d2 : RDom) (e : Int) (n1 n2 : Nat) (h1 : d2 = (applyR d x).1) (h2 : e = (applyR d x).2) (h3 : n1 = d2.nodes.length) (h4 : n2 = d2.pods.length) (hok : ∀ k, ok k → k < w.heap.size) (hd : rdomK w ok d cd) (hx : chgK w ok x cs) (hs : ChgFit x) (hln : d.nodes.length ≤ 1073741823) (hlp : d.pods.length ≤ 1073741823)
    (hR : ∀ Cn un Cp up w', Below w.heap.size w w' → rdomK w' (fun k => ok k ∨ w.heap.size ≤ k) d2 [.slice Cn n1 un, .slice Cp n2 up] → R (.returned (.tuple #[.agg #[.slice Cn n1 un, .slice Cp n2 up], .int .i64 e])) w') :
    Calls Tryz.prog 11 #[.agg cd.toArray, .agg cs.toArray] w R := by
  subst h1 h2 h3 h4
  refine rapply_k R w ok d x cd cs hok hd hx hs hln hlp (fun cd' w' g h => ?_)
  have h0 := h
  obtain ⟨cn, cp, rfl, hcn, hcp⟩ := h
  obtain ⟨Cn, un, rfl, _, _⟩ := hcn.form
  obtain ⟨Cp, up, rfl, _, _⟩ := hcp.form
  exact hR Cn un Cp up w' g h0
set_option maxRecDepth 100000 in
set_option maxHeartbeats 40000000 in
theorem domainSame_k (R : Ending → World → Prop) (w : World) (ok : Nat → Prop) (vx vy : Value) (xs ys : List Chg) (hG : GOk w) (hok : ∀ k, ok k → k < w.heap.size) (hxs : SlK chgK 21 w ok vx xs) (hys : SlK chgK 21 w ok vy ys)
    (hfx : ∀ s ∈ xs, ChgFit s ∧ ChgShort s) (hfy : ∀ s ∈ ys, ChgFit s ∧ ChgShort s) (hlx : xs.length ≤ 1048576) (hly : ys.length ≤ 1048576)
    (hR : ∀ w', Below w.heap.size w w' → R (.returned (.bool true)) w') :
    Calls Tryz.prog 4 #[vx, vy] w R := by
  have HR := Lib.hid hR
  have HOK := Lib.hid hok
  have HFX := Lib.hid hfx
  have HFY := Lib.hid hfy
  have HG := Lib.hid hG
  obtain ⟨Ax, cx, ex, _, _⟩ := hxs.form
  obtain ⟨Ay, cy, ey, _, _⟩ := hys.form
  subst ex ey
  have HXS := Lib.hid hxs
  have HYS := Lib.hid hys
  clear hR hok hxs hys hfx hfy
  go_enter Tryz.func4, Tryz.ntmps4
  go_wp2_with fail
  refine wakes_k _ _ hG ?_
  intro w1 g1
  have HB1 := Lib.hid g1
  clear g1 hG
  go_wp2_with fail
  refine dnew_k _ _ ?_
  intro ha owna w2 g2 D2 hown2 hd2
  have HB2 := Lib.hid (HB1.out.trans (g2.mono HB1.out.size))
  have DA := Lib.hid D2
  have OA := Lib.hid (show ∀ j, j < w.heap.size → owna j = none from fun j hj => hown2 j (Nat.lt_of_lt_of_le hj HB1.out.size))
  clear g2 D2 hown2
  go_wp2_with fail
  refine dnew_k _ _ ?_
  intro hb ownb w3 g3 D3 hown3 hd3
  have HB3 := Lib.hid (HB2.out.trans (g3.mono HB2.out.size))
  have HI := Lib.hid (show TwoI w ha hb w3.heap.size (w3.heap.size + 1) ((w3.alloc (.cells #[.slice none 0 0, .slice none 0 0] 29)).alloc (.cells #[.slice none 0 0, .slice none 0 0] 29)) from by
    have gA : Below w3.heap.size w3 ((w3.alloc (.cells #[.slice none 0 0, .slice none 0 0] 29)).alloc (.cells #[.slice none 0 0, .slice none 0 0] 29)) := Below.alloc (Below.alloc (Below.refl _ _) (Nat.le_refl _) _) (by simp) _
    have DA3 := (DA.out.below g3)
    refine ⟨St.empty, St.empty, ⟨[], []⟩, ⟨[], []⟩, owna, ownb, .slice none 0 0, .slice none 0 0, .slice none 0 0, .slice none 0 0, ?_, Tells.empty, Fit.empty, Tells.empty, Fit.empty⟩
    exact {
      DA := DA3.below gA
      DB := D3.below gA
      dis := fun j hj => hown3 j (by
        rcases Nat.lt_or_ge j w2.heap.size with h | h
        · exact h
        · exact absurd (DA.out.lim j h) hj)
      h8 := heap_keep (heap_alloc_new _ _) _
      h9 := by
        have := heap_alloc_new (w3.alloc (.cells #[.slice none 0 0, .slice none 0 0] 29)) (.cells #[.slice none 0 0, .slice none 0 0] 29)
        rwa [World.size_alloc] at this
      o8a := DA3.lim _ (Nat.le_refl _)
      o8b := D3.lim _ (Nat.le_refl _)
      o9a := DA3.lim _ (by omega)
      o9b := D3.lim _ (by omega)
      ne := by omega
      k8 := ⟨_, _, rfl, SlK.nil, SlK.nil⟩
      k9 := ⟨_, _, rfl, SlK.nil, SlK.nil⟩
      below := HB3.out.trans (gA.mono HB3.out.size)
      own := fun j hj => ⟨OA.out j hj, hown3 j (Nat.lt_of_lt_of_le hj HB2.out.size)⟩
      l8 := HB3.out.size
      l9 := Nat.le_succ_of_le HB3.out.size })
  obtain ⟨B8, hB8⟩ : ∃ B8, B8 = w3.heap.size := ⟨_, rfl⟩
  obtain ⟨B9, hB9⟩ : ∃ B9, B9 = w3.heap.size + 1 := ⟨_, rfl⟩
  rw [← hB9, ← hB8] at HI
  clear g3 D3 hown3 hd2 hd3 DA OA HB2 HB3
  go_wp2_with fail
  try rw [← hB9]
  try rw [← hB8]
  go_loopw [10] (fun i wr => ∃ k : Nat, k ≤ xs.length ∧ i = .int .i64 k ∧ TwoI w ha hb B8 B9 wr) (fun i _ => xs.length - (intOf i).toNat)
  case atStart => exact ⟨0, Nat.zero_le _, rfl, HI.out⟩
  case round =>
    obtain ⟨k, hk, rfl, hI⟩ := hrel
    clear HI hB8 hB9 HB1
    by_cases hkl : k < xs.length
    · obtain ⟨S, T, d, e, owna, ownb, vn, vp, un, up, M0, T0, F0, U0, E0⟩ := hI
      have M1 := Lib.hid M0
      have T1 := Lib.hid T0
      have F1 := Lib.hid F0
      have U1 := Lib.hid U0
      have E1 := Lib.hid E0
      clear M0 T0 F0 U0 E0
      try clear hI
      obtain ⟨b, off, c', he, _, _, hbok, hbl, hce⟩ := HXS.out.addr (by omega)
      simp only [Value.slice.injEq] at he
      obtain ⟨rfl, -, rfl⟩ := he
      obtain ⟨s, hs⟩ : ∃ s, xs[k]'hkl = s := ⟨_, rfl⟩
      have hc := hce k hkl
      rw [hs] at hc
      obtain ⟨cs, hcs, hl21, hcc⟩ := hc
      obtain ⟨fit1, fit2⟩ := HFX.out s (by rw [← hs]; exact List.getElem_mem hkl)
      have hbw : b < w.heap.size := HOK.out b hbok
      have R0 := Lib.hid (range_blk (chg_range hcc) (M1.out.below.block b hbw))
      have HCS := Lib.hid hcs
      have HF1 := Lib.hid fit1
      have HF2 := Lib.hid fit2
      have hsz := M1.out.below.size
      have HS2 := Lib.hid (chgOk.move HCS.out (fun j hj => M1.out.below.block j (HOK.out j hj)))
      clear hce hcc hs hcs fit1 fit2
      have r0 := R0.out
      go_wp2_with (first | refine wpList_load_mid rfl 42 _ rfl b (off + k * 21) rfl cs _ r0 Tryz.underlying42 rfl (by rw [hl21]; kernel_rfl) ?_)
      clear r0
      refine copyChange_k _ _ ok s cs (fun j hj => by have := HOK.out j hj; omega) HS2.out HF2.out ?_
      intro cs2 w6 g6 hx6
      have G6 := Lib.hid g6
      have HX6 := Lib.hid hx6
      clear g6 hx6
      go_wp2_with fail
      refine dapply_k _ _ ha owna S d (fun j => wr.heap.size ≤ j ∧ j < w6.heap.size) s cs2 (M1.out.DA.below G6.out) T1.out F1.out (fun j hj => ⟨hj.2, fun e => e.1 (M1.out.DA.lim j hj.1)⟩) (chgOk.bnd HX6.out) HF1.out (GOk.below HG.out (M1.out.below.trans (G6.out.mono M1.out.below.size))) ?_
      intro own2 w7 D7 E7 G7
      obtain ⟨S2, hS2⟩ : ∃ S2, S2 = applyS S s := ⟨_, rfl⟩
      rw [← hS2] at D7
      have HS2E := Lib.hid hS2
      clear hS2
      obtain ⟨d2, hd2⟩ : ∃ d2, d2 = (applyR d s).1 := ⟨_, rfl⟩
      obtain ⟨er, her⟩ : ∃ er, er = (applyR d s).2 := ⟨_, rfl⟩
      obtain ⟨n1, hn1⟩ : ∃ n1, n1 = d2.nodes.length := ⟨_, rfl⟩
      obtain ⟨n2, hn2⟩ : ∃ n2, n2 = d2.pods.length := ⟨_, rfl⟩
      have HD2 := Lib.hid hd2
      have HE := Lib.hid her
      have HN1 := Lib.hid hn1
      have HN2 := Lib.hid hn2
      clear hd2 her hn1 hn2
      obtain ⟨eq, heq⟩ : ∃ eq : Int, (if fitsS S s = false then (90 : Int) else 0) = eq := ⟨_, rfl⟩
      rw [heq]
      clear heq
      have M7 := Lib.hid ((M1.out.mono G6.out).apply D7 E7 G7)
      have hsz7 := M7.out.below.size
      have R7 := Lib.hid (range_blk (range_blk R0.out ((M1.out.below.block b hbw).symm)) (M7.out.below.block b hbw))
      have HS7 := Lib.hid (chgOk.mono (chgOk.move HCS.out (fun j hj => M7.out.below.block j (HOK.out j hj))) (ok' := okT own2 ownb B8 B9 w7) (fun j hj => ⟨by have := HOK.out j hj; omega, (M7.out.own j (HOK.out j hj)).1, (M7.out.own j (HOK.out j hj)).2, by have := HOK.out j hj; have := M7.out.l8; omega, by have := HOK.out j hj; have := M7.out.l9; omega⟩))
      have HLB := Lib.hid (show b < w7.heap.size by omega)
      have HNB := Lib.hid (show ¬ b = B8 from fun e => by have := M7.out.l8; omega)
      have YA := Lib.hid (Mod.refl (fun j => j = B8) w7).drew
      have x80 : w7.cell? ⟨B8, 0, none⟩ = some vn := cell_at M7.out.h8 rfl
      have x81 : w7.cell? ⟨B8, 1, none⟩ = some vp := cell_at M7.out.h8 rfl
      clear D7 E7 G7 HS2 HX6 G6 R0
      go_wp2_with fail
      refine wp_region_held_drew (S := fun W => Mod (fun j => j = B8) w7 W) (by kernel_rfl) YA.out (fun hHeld => ?_)
      refine' wpAnyH_take (i := 1) (v := _) (List.getElem?_toArray.trans rfl) (by kernel_rfl) (by kernel_rfl) (by kernel_rfl) (fun _ _ _ h => h) (Or.inl ⟨by rfl, ?y1a⟩) hHeld ?r1a
      case y1a =>
        intro w hSw
        try dsimp only at hSw
        go_simp
        try with_reducible rfl
      try simp only [Act.put, List.setIfInBounds_toArray, List.set_cons_zero, List.set_cons_succ]
      refine' wpAnyH_take (i := 2) (v := _) (List.getElem?_toArray.trans rfl) (by kernel_rfl) (by kernel_rfl) (by kernel_rfl) (fun _ _ _ h => h) (Or.inl ⟨by rfl, ?y2a⟩) hHeld ?r2a
      case y2a =>
        intro w hSw
        try dsimp only at hSw
        go_simp
        try with_reducible rfl
      try simp only [Act.put, List.setIfInBounds_toArray, List.set_cons_zero, List.set_cons_succ]
      refine' wpAnyH_take (i := 3) (v := _) (List.getElem?_toArray.trans rfl) (by kernel_rfl) (by kernel_rfl) (by kernel_rfl) (fun _ _ _ h => h) (Or.inl ⟨by rfl, ?y3a⟩) hHeld ?r3a
      case y3a =>
        intro w hSw
        try dsimp only at hSw
        go_simp
        try with_reducible rfl
      try simp only [Act.put, List.setIfInBounds_toArray, List.set_cons_zero, List.set_cons_succ]
      refine' wpAnyH_take (i := 4) (v := _) (List.getElem?_toArray.trans rfl) (by kernel_rfl) (by kernel_rfl) (by kernel_rfl) (fun _ _ _ h => h) (yieldsIf_load_mid (by rfl) 42 _ rfl b (off + k * 21) rfl cs _ (fun W hW => range_blk R7.out (hW.block b HLB.out HNB.out)) Tryz.underlying42 rfl (by rw [hl21]; kernel_rfl)) hHeld ?_
      try simp only [Act.put, List.setIfInBounds_toArray, List.set_cons_zero, List.set_cons_succ]
      refine wpAnyH_ready (rs := [0]) (by kernel_rfl) (by simp) ?_
      refine AllReadyH.cons (List.getElem?_toArray.trans rfl) (fun K hK => ?_) AllReadyH.nil
      go_simp
      refine hK.out _ _ (YA.out) (fun hHeld => ?_)
      clear hK K
      try simp only [Act.put, List.setIfInBounds_toArray, List.set_cons_zero, List.set_cons_succ]
      refine wpAnyH_ready (rs := [5]) (by kernel_rfl) (by simp) ?_
      refine AllReadyH.cons (List.getElem?_toArray.trans rfl) (fun K hK => ?_) AllReadyH.nil
      go_simp
      go_at_call 11
      refine rapply_f _ _ (okT own2 ownb B8 B9 w7) d s [vn, vp] cs d2 er n1 n2 HD2.out HE.out HN1.out HN2.out (fun j hj => hj.1) (rdomOk.move M7.out.k8 (fun j hj => rfl)) HS7.out HF1.out (by have := T1.out.nodes_len; omega) (by have := T1.out.pods_len; omega) ?_
      intro Cn un' Cp up' w8 g8 hd8
      have G8 := Lib.hid (Below.of_drew g8)
      have HD8 := Lib.hid hd8
      clear hd8 g8
      have M8 := Lib.hid (M7.out.mono G8.out)
      have b8 := M8.out.h8
      have z0 : w8.cell? ⟨B8, 0, none⟩ = some vn := cell_at b8 rfl
      have z1 : w8.cell? ⟨B8, 1, none⟩ = some vp := cell_at b8 rfl
      have zf0 : w8.frozen? ⟨B8, 0, none⟩ = false := frozen_at b8
      have zf1 : w8.frozen? ⟨B8, 1, none⟩ = false := frozen_at b8
      have MB := Lib.hid ((Mod.of_below G8.out).non_to : Mod (fun j => j = B8) w7 w8)
      have B8H := Lib.hid b8
      clear b8
      go_wp2_with fail
      refine hK.out _ _ (MB.out) (fun hHeld => ?_)
      clear hK K
      try simp only [Act.put, List.setIfInBounds_toArray, List.set_cons_zero, List.set_cons_succ]
      refine' wpAnyH_take (i := 6) (v := _) (List.getElem?_toArray.trans rfl) (by kernel_rfl) (by kernel_rfl) (by kernel_rfl) (fun _ _ _ h => h) (Or.inl ⟨by rfl, ?y6a⟩) hHeld ?r6a
      case y6a =>
        intro w hSw
        try dsimp only at hSw
        go_simp
        try with_reducible rfl
      try simp only [Act.put, List.setIfInBounds_toArray, List.set_cons_zero, List.set_cons_succ]
      refine' wpAnyH_take (i := 7) (v := _) (List.getElem?_toArray.trans rfl) (by kernel_rfl) (by kernel_rfl) (by kernel_rfl) (fun _ _ _ h => h) (Or.inl ⟨by rfl, ?y7a⟩) hHeld ?r7a
      case y7a =>
        intro w hSw
        try dsimp only at hSw
        go_simp
        try with_reducible rfl
      try simp only [Act.put, List.setIfInBounds_toArray, List.set_cons_zero, List.set_cons_succ]
      refine' wpAnyH_take (i := 8) (v := _) (List.getElem?_toArray.trans rfl) (by kernel_rfl) (by kernel_rfl) (by kernel_rfl) (fun _ _ _ h => h) (Or.inl ⟨by rfl, ?y8a⟩) hHeld ?r8a
      case y8a =>
        intro w hSw
        try dsimp only at hSw
        go_simp
        try with_reducible rfl
      try simp only [Act.put, List.setIfInBounds_toArray, List.set_cons_zero, List.set_cons_succ]
      refine wpAnyH_ready (rs := [9]) (by kernel_rfl) (by simp) ?_
      refine AllReadyH.cons (List.getElem?_toArray.trans rfl) (fun K hK => ?_) AllReadyH.nil
      go_simp
      refine hK.out _ _ (Mod.setCell (p := ⟨B8, 1, none⟩) (Mod.setCell (p := ⟨B8, 0, none⟩) MB.out (fun _ => rfl) _) (fun _ => rfl) _) (fun hHeld => ?_)
      clear hK K
      try simp only [Act.put, List.setIfInBounds_toArray, List.set_cons_zero, List.set_cons_succ]
      refine wpAnyH_done (by kernel_rfl) ?_ _
      have G9 := Lib.hid (show TwoI w ha hb B8 B9 ((w8.setCell ⟨B8, 0, none⟩ (.slice Cn n1 un')).setCell ⟨B8, 1, none⟩ (.slice Cp n2 up')) from by
        have gS : Mod (fun j => j = B8) w8 ((w8.setCell ⟨B8, 0, none⟩ (.slice Cn n1 un')).setCell ⟨B8, 1, none⟩ (.slice Cp n2 up')) := Mod.setCell (S := fun j => j = B8) (p := ⟨B8, 1, none⟩) (Mod.setCell (S := fun j => j = B8) (p := ⟨B8, 0, none⟩) (Mod.refl _ w8) (fun _ => rfl) _) (fun _ => rfl) _
        have hk8 : rdomK ((w8.setCell ⟨B8, 0, none⟩ (.slice Cn n1 un')).setCell ⟨B8, 1, none⟩ (.slice Cp n2 up')) (okT own2 ownb B8 B9 ((w8.setCell ⟨B8, 0, none⟩ (.slice Cn n1 un')).setCell ⟨B8, 1, none⟩ (.slice Cp n2 up'))) d2 [.slice Cn n1 un', .slice Cp n2 up'] := by
          have l8 := M7.out.lt8
          have l9 := M7.out.lt9
          have hd : ∀ j, ((okT own2 ownb B8 B9 w7 j ∨ w7.drew.heap.size ≤ j) ∧ j < w8.heap.size) → (own2 j = none ∧ ownb j = none ∧ j ≠ B8 ∧ j ≠ B9) := fun j hj => by
            rcases hj.1 with h | h
            · exact ⟨h.2.1, h.2.2.1, h.2.2.2.1, h.2.2.2.2⟩
            · have h' : w7.heap.size ≤ j := h
              exact ⟨M7.out.DA.lim j h', M7.out.DB.lim j h', by omega, by omega⟩
          refine rdomOk.mono (rdomOk.move (rdomOk.bnd HD8.out) (fun j hj => gS.block j hj.2 (hd j hj).2.2.1)) (fun j hj => ⟨Nat.lt_of_lt_of_le hj.2 gS.size, (hd j hj).1, (hd j hj).2.1, (hd j hj).2.2⟩)
        exact (show TwoI w ha hb B8 B9 _ from ⟨S2, T, d2, e, own2, ownb, _, _, un, up, M8.out.set gS (heap_setCell_at (heap_setCell_at B8H.out)) hk8, by rw [HD2.out, HS2E.out]; exact (T1.out.apply s).1, by rw [HD2.out]; exact Fit.apply T1.out F1.out HF1.out, U1.out, E1.out⟩))
      clear z0 z1 zf0 zf1
      go_wp2_with fail
      go_roundw
      case rel => exact ⟨k + 1, by omega, by go_num, G9.out⟩
      case measure => simp [intOf]; omega
    · have HI := Lib.hid hI
      clear hI
      obtain rfl : k = xs.length := by omega
      go_wp2_with fail
      go_loopw [11] (fun i wr => ∃ k : Nat, k ≤ ys.length ∧ i = .int .i64 k ∧ TwoI w ha hb B8 B9 wr) (fun i _ => ys.length - (intOf i).toNat)
      case atStart => exact ⟨0, Nat.zero_le _, rfl, HI.out⟩
      case round =>
        obtain ⟨k, hk, rfl, hI⟩ := hrel
        clear HI
        by_cases hkl : k < ys.length
        · obtain ⟨S, T, d, e, owna, ownb, vn, vp, un, up, M0, T0, F0, U0, E0⟩ := hI.swap
          have M1 := Lib.hid M0
          have T1 := Lib.hid T0
          have F1 := Lib.hid F0
          have U1 := Lib.hid U0
          have E1 := Lib.hid E0
          clear M0 T0 F0 U0 E0
          try clear hI
          obtain ⟨b, off, c', he, _, _, hbok, hbl, hce⟩ := HYS.out.addr (by omega)
          simp only [Value.slice.injEq] at he
          obtain ⟨rfl, -, rfl⟩ := he
          obtain ⟨s, hs⟩ : ∃ s, ys[k]'hkl = s := ⟨_, rfl⟩
          have hc := hce k hkl
          rw [hs] at hc
          obtain ⟨cs, hcs, hl21, hcc⟩ := hc
          obtain ⟨fit1, fit2⟩ := HFY.out s (by rw [← hs]; exact List.getElem_mem hkl)
          have hbw : b < w.heap.size := HOK.out b hbok
          have R0 := Lib.hid (range_blk (chg_range hcc) (M1.out.below.block b hbw))
          have HCS := Lib.hid hcs
          have HF1 := Lib.hid fit1
          have HF2 := Lib.hid fit2
          have hsz := M1.out.below.size
          have HS2 := Lib.hid (chgOk.move HCS.out (fun j hj => M1.out.below.block j (HOK.out j hj)))
          clear hce hcc hs hcs fit1 fit2
          have r0 := R0.out
          go_wp2_with (first | refine wpList_load_mid rfl 42 _ rfl b (off + k * 21) rfl cs _ r0 Tryz.underlying42 rfl (by rw [hl21]; kernel_rfl) ?_)
          clear r0
          refine copyChange_k _ _ ok s cs (fun j hj => by have := HOK.out j hj; omega) HS2.out HF2.out ?_
          intro cs2 w6 g6 hx6
          have G6 := Lib.hid g6
          have HX6 := Lib.hid hx6
          clear g6 hx6
          go_wp2_with fail
          refine dapply_k _ _ hb owna S d (fun j => wr.heap.size ≤ j ∧ j < w6.heap.size) s cs2 (M1.out.DA.below G6.out) T1.out F1.out (fun j hj => ⟨hj.2, fun e => e.1 (M1.out.DA.lim j hj.1)⟩) (chgOk.bnd HX6.out) HF1.out (GOk.below HG.out (M1.out.below.trans (G6.out.mono M1.out.below.size))) ?_
          intro own2 w7 D7 E7 G7
          obtain ⟨S2, hS2⟩ : ∃ S2, S2 = applyS S s := ⟨_, rfl⟩
          rw [← hS2] at D7
          have HS2E := Lib.hid hS2
          clear hS2
          obtain ⟨d2, hd2⟩ : ∃ d2, d2 = (applyR d s).1 := ⟨_, rfl⟩
          obtain ⟨er, her⟩ : ∃ er, er = (applyR d s).2 := ⟨_, rfl⟩
          obtain ⟨n1, hn1⟩ : ∃ n1, n1 = d2.nodes.length := ⟨_, rfl⟩
          obtain ⟨n2, hn2⟩ : ∃ n2, n2 = d2.pods.length := ⟨_, rfl⟩
          have HD2 := Lib.hid hd2
          have HE := Lib.hid her
          have HN1 := Lib.hid hn1
          have HN2 := Lib.hid hn2
          clear hd2 her hn1 hn2
          obtain ⟨eq, heq⟩ : ∃ eq : Int, (if fitsS S s = false then (90 : Int) else 0) = eq := ⟨_, rfl⟩
          rw [heq]
          clear heq
          have M7 := Lib.hid ((M1.out.mono G6.out).apply D7 E7 G7)
          have hsz7 := M7.out.below.size
          have R7 := Lib.hid (range_blk (range_blk R0.out ((M1.out.below.block b hbw).symm)) (M7.out.below.block b hbw))
          have HS7 := Lib.hid (chgOk.mono (chgOk.move HCS.out (fun j hj => M7.out.below.block j (HOK.out j hj))) (ok' := okT own2 ownb B9 B8 w7) (fun j hj => ⟨by have := HOK.out j hj; omega, (M7.out.own j (HOK.out j hj)).1, (M7.out.own j (HOK.out j hj)).2, by have := HOK.out j hj; have := M7.out.l8; omega, by have := HOK.out j hj; have := M7.out.l9; omega⟩))
          have HLB := Lib.hid (show b < w7.heap.size by omega)
          have HNB := Lib.hid (show ¬ b = B9 from fun e => by have := M7.out.l8; omega)
          have YA := Lib.hid (Mod.refl (fun j => j = B9) w7).drew
          have x80 : w7.cell? ⟨B9, 0, none⟩ = some vn := cell_at M7.out.h8 rfl
          have x81 : w7.cell? ⟨B9, 1, none⟩ = some vp := cell_at M7.out.h8 rfl
          clear D7 E7 G7 HS2 HX6 G6 R0
          go_wp2_with fail
          refine wp_region_held_drew (S := fun W => Mod (fun j => j = B9) w7 W) (by kernel_rfl) YA.out (fun hHeld => ?_)
          refine' wpAnyH_take (i := 1) (v := _) (List.getElem?_toArray.trans rfl) (by kernel_rfl) (by kernel_rfl) (by kernel_rfl) (fun _ _ _ h => h) (Or.inl ⟨by rfl, ?y1b⟩) hHeld ?r1b
          case y1b =>
            intro w hSw
            try dsimp only at hSw
            go_simp
            try with_reducible rfl
          try simp only [Act.put, List.setIfInBounds_toArray, List.set_cons_zero, List.set_cons_succ]
          refine' wpAnyH_take (i := 2) (v := _) (List.getElem?_toArray.trans rfl) (by kernel_rfl) (by kernel_rfl) (by kernel_rfl) (fun _ _ _ h => h) (Or.inl ⟨by rfl, ?y2b⟩) hHeld ?r2b
          case y2b =>
            intro w hSw
            try dsimp only at hSw
            go_simp
            try with_reducible rfl
          try simp only [Act.put, List.setIfInBounds_toArray, List.set_cons_zero, List.set_cons_succ]
          refine' wpAnyH_take (i := 3) (v := _) (List.getElem?_toArray.trans rfl) (by kernel_rfl) (by kernel_rfl) (by kernel_rfl) (fun _ _ _ h => h) (Or.inl ⟨by rfl, ?y3b⟩) hHeld ?r3b
          case y3b =>
            intro w hSw
            try dsimp only at hSw
            go_simp
            try with_reducible rfl
          try simp only [Act.put, List.setIfInBounds_toArray, List.set_cons_zero, List.set_cons_succ]
          refine' wpAnyH_take (i := 4) (v := _) (List.getElem?_toArray.trans rfl) (by kernel_rfl) (by kernel_rfl) (by kernel_rfl) (fun _ _ _ h => h) (yieldsIf_load_mid (by rfl) 42 _ rfl b (off + k * 21) rfl cs _ (fun W hW => range_blk R7.out (hW.block b HLB.out HNB.out)) Tryz.underlying42 rfl (by rw [hl21]; kernel_rfl)) hHeld ?_
          try simp only [Act.put, List.setIfInBounds_toArray, List.set_cons_zero, List.set_cons_succ]
          refine wpAnyH_ready (rs := [0]) (by kernel_rfl) (by simp) ?_
          refine AllReadyH.cons (List.getElem?_toArray.trans rfl) (fun K hK => ?_) AllReadyH.nil
          go_simp
          refine hK.out _ _ (YA.out) (fun hHeld => ?_)
          clear hK K
          try simp only [Act.put, List.setIfInBounds_toArray, List.set_cons_zero, List.set_cons_succ]
          refine wpAnyH_ready (rs := [5]) (by kernel_rfl) (by simp) ?_
          refine AllReadyH.cons (List.getElem?_toArray.trans rfl) (fun K hK => ?_) AllReadyH.nil
          go_simp
          go_at_call 11
          refine rapply_f _ _ (okT own2 ownb B9 B8 w7) d s [vn, vp] cs d2 er n1 n2 HD2.out HE.out HN1.out HN2.out (fun j hj => hj.1) (rdomOk.move M7.out.k8 (fun j hj => rfl)) HS7.out HF1.out (by have := T1.out.nodes_len; omega) (by have := T1.out.pods_len; omega) ?_
          intro Cn un' Cp up' w8 g8 hd8
          have G8 := Lib.hid (Below.of_drew g8)
          have HD8 := Lib.hid hd8
          clear hd8 g8
          have M8 := Lib.hid (M7.out.mono G8.out)
          have b8 := M8.out.h8
          have z0 : w8.cell? ⟨B9, 0, none⟩ = some vn := cell_at b8 rfl
          have z1 : w8.cell? ⟨B9, 1, none⟩ = some vp := cell_at b8 rfl
          have zf0 : w8.frozen? ⟨B9, 0, none⟩ = false := frozen_at b8
          have zf1 : w8.frozen? ⟨B9, 1, none⟩ = false := frozen_at b8
          have MB := Lib.hid ((Mod.of_below G8.out).non_to : Mod (fun j => j = B9) w7 w8)
          have B8H := Lib.hid b8
          clear b8
          go_wp2_with fail
          refine hK.out _ _ (MB.out) (fun hHeld => ?_)
          clear hK K
          try simp only [Act.put, List.setIfInBounds_toArray, List.set_cons_zero, List.set_cons_succ]
          refine' wpAnyH_take (i := 6) (v := _) (List.getElem?_toArray.trans rfl) (by kernel_rfl) (by kernel_rfl) (by kernel_rfl) (fun _ _ _ h => h) (Or.inl ⟨by rfl, ?y6b⟩) hHeld ?r6b
          case y6b =>
            intro w hSw
            try dsimp only at hSw
            go_simp
            try with_reducible rfl
          try simp only [Act.put, List.setIfInBounds_toArray, List.set_cons_zero, List.set_cons_succ]
          refine' wpAnyH_take (i := 7) (v := _) (List.getElem?_toArray.trans rfl) (by kernel_rfl) (by kernel_rfl) (by kernel_rfl) (fun _ _ _ h => h) (Or.inl ⟨by rfl, ?y7b⟩) hHeld ?r7b
          case y7b =>
            intro w hSw
            try dsimp only at hSw
            go_simp
            try with_reducible rfl
          try simp only [Act.put, List.setIfInBounds_toArray, List.set_cons_zero, List.set_cons_succ]
          refine' wpAnyH_take (i := 8) (v := _) (List.getElem?_toArray.trans rfl) (by kernel_rfl) (by kernel_rfl) (by kernel_rfl) (fun _ _ _ h => h) (Or.inl ⟨by rfl, ?y8b⟩) hHeld ?r8b
          case y8b =>
            intro w hSw
            try dsimp only at hSw
            go_simp
            try with_reducible rfl
          try simp only [Act.put, List.setIfInBounds_toArray, List.set_cons_zero, List.set_cons_succ]
          refine wpAnyH_ready (rs := [9]) (by kernel_rfl) (by simp) ?_
          refine AllReadyH.cons (List.getElem?_toArray.trans rfl) (fun K hK => ?_) AllReadyH.nil
          go_simp
          refine hK.out _ _ (Mod.setCell (p := ⟨B9, 1, none⟩) (Mod.setCell (p := ⟨B9, 0, none⟩) MB.out (fun _ => rfl) _) (fun _ => rfl) _) (fun hHeld => ?_)
          clear hK K
          try simp only [Act.put, List.setIfInBounds_toArray, List.set_cons_zero, List.set_cons_succ]
          refine wpAnyH_done (by kernel_rfl) ?_ _
          have G9 := Lib.hid (show TwoI w ha hb B8 B9 ((w8.setCell ⟨B9, 0, none⟩ (.slice Cn n1 un')).setCell ⟨B9, 1, none⟩ (.slice Cp n2 up')) from by
            have gS : Mod (fun j => j = B9) w8 ((w8.setCell ⟨B9, 0, none⟩ (.slice Cn n1 un')).setCell ⟨B9, 1, none⟩ (.slice Cp n2 up')) := Mod.setCell (S := fun j => j = B9) (p := ⟨B9, 1, none⟩) (Mod.setCell (S := fun j => j = B9) (p := ⟨B9, 0, none⟩) (Mod.refl _ w8) (fun _ => rfl) _) (fun _ => rfl) _
            have hk8 : rdomK ((w8.setCell ⟨B9, 0, none⟩ (.slice Cn n1 un')).setCell ⟨B9, 1, none⟩ (.slice Cp n2 up')) (okT own2 ownb B9 B8 ((w8.setCell ⟨B9, 0, none⟩ (.slice Cn n1 un')).setCell ⟨B9, 1, none⟩ (.slice Cp n2 up'))) d2 [.slice Cn n1 un', .slice Cp n2 up'] := by
              have l8 := M7.out.lt8
              have l9 := M7.out.lt9
              have hd : ∀ j, ((okT own2 ownb B9 B8 w7 j ∨ w7.drew.heap.size ≤ j) ∧ j < w8.heap.size) → (own2 j = none ∧ ownb j = none ∧ j ≠ B9 ∧ j ≠ B8) := fun j hj => by
                rcases hj.1 with h | h
                · exact ⟨h.2.1, h.2.2.1, h.2.2.2.1, h.2.2.2.2⟩
                · have h' : w7.heap.size ≤ j := h
                  exact ⟨M7.out.DA.lim j h', M7.out.DB.lim j h', by omega, by omega⟩
              refine rdomOk.mono (rdomOk.move (rdomOk.bnd HD8.out) (fun j hj => gS.block j hj.2 (hd j hj).2.2.1)) (fun j hj => ⟨Nat.lt_of_lt_of_le hj.2 gS.size, (hd j hj).1, (hd j hj).2.1, (hd j hj).2.2⟩)
            exact (show TwoI w hb ha B9 B8 _ from ⟨S2, T, d2, e, own2, ownb, _, _, un, up, M8.out.set gS (heap_setCell_at (heap_setCell_at B8H.out)) hk8, by rw [HD2.out, HS2E.out]; exact (T1.out.apply s).1, by rw [HD2.out]; exact Fit.apply T1.out F1.out HF1.out, U1.out, E1.out⟩).swap)
          clear z0 z1 zf0 zf1
          go_wp2_with fail
          go_roundw
          case rel => exact ⟨k + 1, by omega, by go_num, G9.out⟩
          case measure => simp [intOf]; omega
        · have HI := Lib.hid hI
          clear hI
          obtain rfl : k = ys.length := by omega
          obtain ⟨S, T, d, e, owna, ownb, vn, vp, un2, up2, M0, T0, F0, U0, E0⟩ := HI.out
          have ZD := Lib.hid (Sized.of T0 F0)
          have ZE := Lib.hid (Sized.of U0 E0)
          have ZS := Lib.hid (ShortS.of T0 F0)
          have ZT := Lib.hid (ShortS.of U0 E0)
          have TS := Lib.hid T0
          have TT := Lib.hid U0
          have DA := Lib.hid (show DomV wr (.pointer (some ⟨ha.d, 0, none⟩)) S from .inl ⟨ha, owna, rfl, M0.DA⟩)
          have DB := Lib.hid (show DomV wr (.pointer (some ⟨hb.d, 0, none⟩)) T from .inl ⟨hb, ownb, rfl, M0.DB⟩)
          have BW := Lib.hid M0.below
          have h8 := M0.h8
          have h9 := M0.h9
          obtain ⟨vn', vp', evp, hk1, hk2⟩ := M0.k8
          obtain ⟨rfl, rfl⟩ : vn = vn' ∧ vp = vp' := by
            have := List.cons.inj evp
            exact ⟨this.1, (List.cons.inj this.2).1⟩
          obtain ⟨Cn, un, rfl, _, _⟩ := hk1.form
          have HK8 := Lib.hid M0.k8
          have HK9 := Lib.hid M0.k9
          have HEM := Lib.hid T0.empty_iff
          obtain ⟨n, hn⟩ : ∃ n, n = d.nodes.length := ⟨_, rfl⟩
          have HN := Lib.hid hn
          rw [← hn] at h8 HK8
          clear hn hk1 hk2 evp M0 T0 F0 U0 E0
          by_cases h0 : n = 0
          · subst h0
            have HQ2 := Lib.hid (show true = true ↔ sameQ S St.empty from ⟨fun _ => by have := HEM.out.2 (List.eq_nil_of_length_eq_zero HN.out.symm); exact ⟨this.1, this.2⟩, fun _ => rfl⟩)
            have HQ3 := Lib.hid (HQ2.out.1 rfl)
            have x80 : wr.cell? ⟨B8, 0, none⟩ = some (.slice Cn 0 un) := cell_at h8 rfl
            have x81 : wr.cell? ⟨B8, 1, none⟩ = some vp := cell_at h8 rfl
            have x90 : wr.cell? ⟨B9, 0, none⟩ = some un2 := cell_at h9 rfl
            have x91 : wr.cell? ⟨B9, 1, none⟩ = some up2 := cell_at h9 rfl
            go_wp2_with fail
            refine rsameD_k _ _ (okT owna ownb B8 B9 wr) d e [.slice Cn 0 un, vp] [un2, up2] (fun j hj => hj.1) HK8.out HK9.out ZD.out ZE.out ?_
            intro w3 g3
            have B3 := Lib.hid g3
            clear g3
            obtain ⟨q1, hq1⟩ : ∃ q1 : Bool, q1 = decide (d = e) := ⟨_, rfl⟩
            rw [← hq1]
            have HQ1 := Lib.hid (show q1 = true ↔ sameQ S T from by rw [hq1, decide_eq_true_iff]; exact (TS.out.sameD TT.out).symm)
            clear hq1
            go_wp2_with fail
            refine sameL_k _ _ _ _ S T (DA.out.below B3.out) (DB.out.below B3.out) ZS.out ZT.out q1 HQ1.out ?_
            intro w4 g4
            have B4 := Lib.hid (B3.out.trans (g4.mono B3.out.size))
            clear g4
            go_wp2_with fail
            refine same_v _ _ _ _ S St.empty (DA.out.below B4.out) (.inr ⟨rfl, rfl⟩) ZS.out ShortS.empty true (Iff.intro (fun _ => HQ3.out) (fun _ => rfl)) ?_
            intro w5 g5
            have B5 := Lib.hid (B4.out.trans (g5.mono B4.out.size))
            clear g5
            go_wp2_with fail
            refine same_v _ _ _ _ St.empty S (.inr ⟨rfl, rfl⟩) (DA.out.below B5.out) ShortS.empty ZS.out true ((Iff.intro (fun _ => HQ3.out) (fun _ => rfl)).trans sameQ.symm) ?_
            intro w6 g6
            have B6 := Lib.hid (B5.out.trans (g6.mono B5.out.size))
            clear g6
            go_wp2_with fail
            refine same_v _ _ _ _ St.empty St.empty (.inr ⟨rfl, rfl⟩) (.inr ⟨rfl, rfl⟩) ShortS.empty ShortS.empty true (sameQ.refl St.empty) ?_
            intro w7 g7
            have hv := HR.out w7 (BW.out.trans ((B6.out.trans (g7.mono B6.out.size)).mono BW.out.size))
            clear g7
            go_wp2_with fail
            exact hv
          · have HQ2 := Lib.hid (show false = true ↔ sameQ S St.empty from ⟨fun h => (by cases h), fun h => absurd (HN.out.trans (by rw [HEM.out.1 ⟨h.1, h.2⟩]; rfl)) h0⟩)
            have hne : ¬ ((n : Int) = 0) := by omega
            have hne2 : ((n : Int) == 0) = false := by simp [h0]
            have x80 : wr.cell? ⟨B8, 0, none⟩ = some (.slice Cn n un) := cell_at h8 rfl
            have x81 : wr.cell? ⟨B8, 1, none⟩ = some vp := cell_at h8 rfl
            have x90 : wr.cell? ⟨B9, 0, none⟩ = some un2 := cell_at h9 rfl
            have x91 : wr.cell? ⟨B9, 1, none⟩ = some up2 := cell_at h9 rfl
            go_wp2_with fail
            refine rsameD_k _ _ (okT owna ownb B8 B9 wr) d e [.slice Cn n un, vp] [un2, up2] (fun j hj => hj.1) HK8.out HK9.out ZD.out ZE.out ?_
            intro w3 g3
            have B3 := Lib.hid g3
            clear g3
            obtain ⟨q1, hq1⟩ : ∃ q1 : Bool, q1 = decide (d = e) := ⟨_, rfl⟩
            rw [← hq1]
            have HQ1 := Lib.hid (show q1 = true ↔ sameQ S T from by rw [hq1, decide_eq_true_iff]; exact (TS.out.sameD TT.out).symm)
            clear hq1
            go_wp2_with fail
            refine sameL_k _ _ _ _ S T (DA.out.below B3.out) (DB.out.below B3.out) ZS.out ZT.out q1 HQ1.out ?_
            intro w4 g4
            have B4 := Lib.hid (B3.out.trans (g4.mono B3.out.size))
            clear g4
            go_wp2_with fail
            refine same_v _ _ _ _ S St.empty (DA.out.below B4.out) (.inr ⟨rfl, rfl⟩) ZS.out ShortS.empty false HQ2.out ?_
            intro w5 g5
            have B5 := Lib.hid (B4.out.trans (g5.mono B4.out.size))
            clear g5
            go_wp2_with fail
            refine same_v _ _ _ _ St.empty S (.inr ⟨rfl, rfl⟩) (DA.out.below B5.out) ShortS.empty ZS.out false (HQ2.out.trans sameQ.symm) ?_
            intro w6 g6
            have B6 := Lib.hid (B5.out.trans (g6.mono B5.out.size))
            clear g6
            go_wp2_with fail
            refine same_v _ _ _ _ St.empty St.empty (.inr ⟨rfl, rfl⟩) (.inr ⟨rfl, rfl⟩) ShortS.empty ShortS.empty true (sameQ.refl St.empty) ?_
            intro w7 g7
            have hv := HR.out w7 (BW.out.trans ((B6.out.trans (g7.mono B6.out.size)).mono BW.out.size))
            clear g7
            go_wp2_with fail
            exact hv
end Go.Proofs.YtmenipaibjifiaaGreatDoor

namespace Go.Proofs.YtmenipaibjifiaaGreatDoor
open Go.RowKit Go.BigFrame Go.Shelf

structure StepD where
  chg : Chg
  ask : AskD
def stepK : KRel StepD := fun w ok s cs => ∃ c vp, cs = c ++ (askC s.ask vp).toList ∧ chgK w ok s.chg c ∧ SlK intsK 1 w ok vp s.ask.pods
theorem stepOk : KOk stepK 30 where
  len := by rintro w ok x cs ⟨c, vp, rfl, h, _⟩; simp [chgOk.len h]
  move := by rintro w w' ok x cs ⟨c, vp, e, h, hv⟩ hm; exact ⟨c, vp, e, chgOk.move h hm, SlK.move intOk hv hm⟩
  mono := by rintro w ok ok' x cs ⟨c, vp, e, h, hv⟩ hm; exact ⟨c, vp, e, chgOk.mono h hm, SlK.mono intOk hv hm⟩
  bnd := by rintro w ok x cs ⟨c, vp, e, h, hv⟩; exact ⟨c, vp, e, chgOk.bnd h, SlK.bnd intOk hv⟩
end Go.Proofs.YtmenipaibjifiaaGreatDoor
