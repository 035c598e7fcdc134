/-
  berthlaw09.DomainAll, walked: for every script of changes and questions it returns true; it writes nothing that lay there.
-/
import Derived.Test.YtmenipaibjifiaaGreatDoorA47
import Derived.Deep.MidRow
set_option linter.unusedVariables false
set_option linter.unusedSimpArgs false
namespace Go.Proofs.YtmenipaibjifiaaGreatDoor
open Go.RowKit Go.BigFrame Go.Shelf

/-- Where the law stands between two steps. -/
def AllI (w : World) (h : Hdr) (B4 : Nat) (wr : World) : Prop :=
  ∃ (own : Own') (S : St) (d : RDom) (vn vp : Value), DomAt wr h own S ∧ Tells d S ∧ Fit d ∧ wr.heap[B4]? = some (.cells #[vn, vp] 29) ∧ own B4 = none ∧ rdomK wr (fun j => j < wr.heap.size ∧ own j = none ∧ j ≠ B4) d [vn, vp] ∧ Below w.heap.size w wr ∧ (∀ j, j < w.heap.size → own j = none) ∧ w.heap.size ≤ B4

theorem rapply_e (R : Ending → World → Prop) (w : World) (ok : Nat → Prop) (d : RDom) (x : Chg) (cd cs : List Value) (d2 : RDom) (e : Int) (n1 n2 : Nat) (h1 : d2 = (applyR d x).1) (h2 : e = (applyR d x).2) (h3 : n1 = d2.nodes.length) (h4 : n2 = d2.pods.length) (hok : ∀ k, ok k → k < w.heap.size) (hd : rdomK w ok d cd) (hx : chgK w ok x cs) (hs : ChgFit x) (hln : d.nodes.length ≤ 1073741823) (hlp : d.pods.length ≤ 1073741823)
    (hR : ∀ Cn un Cp up w', Below w.heap.size w w' → rdomK w' (fun k => ok k ∨ w.heap.size ≤ k) d2 [.slice Cn n1 un, .slice Cp n2 up] → R (.returned (.tuple #[.agg #[.slice Cn n1 un, .slice Cp n2 up], .int .i64 e])) w') :
    Calls Tryz.prog 11 #[.agg cd.toArray, .agg cs.toArray] w R := by
  subst h1 h2 h3 h4
  refine rapply_k R w ok d x cd cs hok hd hx hs hln hlp (fun cd' w' g h => ?_)
  have h0 := h
  obtain ⟨cn, cp, rfl, hcn, hcp⟩ := h
  obtain ⟨Cn, un, rfl, _, _⟩ := hcn.form
  obtain ⟨Cp, up, rfl, _, _⟩ := hcp.form
  exact hR Cn un Cp up w' g h0
theorem AllI.below {w : World} {h : Hdr} {B4 : Nat} {wr w9 : World} (I : AllI w h B4 wr) (g : Below wr.heap.size wr w9) : AllI w h B4 w9 := by
  obtain ⟨own, S, d, vn, vp, D, T, F, b4, o4, hd4, hb, hown, hw4⟩ := I
  have l4 : B4 < wr.heap.size := (Array.getElem?_eq_some_iff.1 b4).1
  exact ⟨own, S, d, vn, vp, D.below g, T, F, (g.block B4 l4).trans b4, o4, rdomOk.mono (rdomOk.move hd4 (fun j hj => g.block j hj.1)) (fun j hj => ⟨Nat.lt_of_lt_of_le hj.1 g.size, hj.2⟩), hb.trans (g.mono hb.size), hown, hw4⟩
theorem rdom_move {w w' : World} {ok : Nat → Prop} {d : RDom} {cs : List Value} (h : rdomK w ok d cs) (hk : ∀ k, ok k → w'.heap[k]? = w.heap[k]?) : rdomK w' ok d cs := rdomOk.move h hk
theorem list21 {α : Type} {l : List α} (h : l.length = 21) : ∃ v0 v1 v2 v3 v4 v5 v6 v7 v8 v9 v10 v11 v12 v13 v14 v15 v16 v17 v18 v19 v20 , l = [v0, v1, v2, v3, v4, v5, v6, v7, v8, v9, v10, v11, v12, v13, v14, v15, v16, v17, v18, v19, v20] := by
  match l, h with
  | [v0, v1, v2, v3, v4, v5, v6, v7, v8, v9, v10, v11, v12, v13, v14, v15, v16, v17, v18, v19, v20], _ => exact ⟨_, _, _, _, _, _, _, _, _, _, _, _, _, _, _, _, _, _, _, _, _, rfl⟩
theorem step_ranges {w : World} {b off k : Nat} {cx ca : List Value} (h21 : cx.length = 21) (hcc : ∀ i u, (cx ++ ca)[i]? = some u → w.cell? ⟨b, off + (k * 30 + i), none⟩ = some u) : w.rangeAt b (off + k * 30) cx ∧ w.rangeAt b (off + k * 30 + 21) ca := by
  constructor
  · intro j v hv
    rw [Nat.add_assoc]
    refine hcc j v ?_
    have := (List.getElem?_eq_some_iff.1 hv).1
    rw [List.getElem?_append_left this]; exact hv
  · intro j v hv
    rw [show off + k * 30 + 21 + j = off + (k * 30 + (21 + j)) by omega]
    refine hcc (21 + j) v ?_
    rw [List.getElem?_append_right (by omega), h21, Nat.add_sub_cancel_left]; exact hv
theorem range_block {w w' : World} {b o : Nat} {cs : List Value} (h : w.rangeAt b o cs) (hb : w'.heap[b]? = w.heap[b]?) : w'.rangeAt b o cs := fun j v hv => by
  rw [World.cell?_of_block (w := w) hb]; exact h j v hv
theorem load_chg (W : World) (b o : Nat) (cs : List Value) (h : W.rangeAt b o cs) (hl : cs.length = 21) : (Instr.loadAt 42 (.pointer (some ⟨b, o, none⟩))).run Tryz.prog W = .ok (.agg cs.toArray) W :=
  run_loadAt_mid W b o 42 cs _ h Tryz.underlying42 rfl (by rw [hl]; kernel_rfl)
theorem load_ask (W : World) (b o : Nat) (cs : List Value) (h : W.rangeAt b o cs) (hl : cs.length = 9) : (Instr.loadAt 45 (.pointer (some ⟨b, o, none⟩))).run Tryz.prog W = .ok (.agg cs.toArray) W :=
  run_loadAt_mid W b o 45 cs _ h Tryz.underlying45 rfl (by rw [hl]; kernel_rfl)
set_option maxRecDepth 100000 in
set_option maxHeartbeats 40000000 in
theorem domainAll_k (R : Ending → World → Prop) (w : World) (ok : Nat → Prop) (vs : Value) (ss : List StepD) (hG : GOk w) (hok : ∀ k, ok k → k < w.heap.size) (hss : SlK stepK 30 w ok vs ss) (hfit : ∀ s ∈ ss, ChgFit s.chg ∧ ChgShort s.chg ∧ s.ask.pods.length ≤ 1048576) (hlen : ss.length ≤ 1048576)
    (hR : ∀ w', Below w.heap.size w w' → R (.returned (.bool true)) w') :
    Calls Tryz.prog 3 #[vs] w R := by
  have HR := Lib.hid hR
  have HOK := Lib.hid hok
  have HFIT := Lib.hid hfit
  have HG := Lib.hid hG
  obtain ⟨As, cs, es, hls, hcs⟩ := hss.form
  subst es
  have HSS := Lib.hid hss
  clear hR hok hss hfit
  go_enter Tryz.func3, Tryz.ntmps3
  go_wp2_with fail
  refine wakes_k _ _ hG ?_
  intro w1 g1
  have HB1 := Lib.hid g1
  clear g1 hG
  go_wp2_with fail
  refine dnew_k _ _ ?_
  intro h own w2 g2 D2 hown hd
  have HB2 := Lib.hid (HB1.out.trans (g2.mono HB1.out.size))
  have HI := Lib.hid (show AllI w h w2.heap.size (w2.alloc (.cells #[.slice none 0 0, .slice none 0 0] 29)) from
    ⟨own, St.empty, ⟨[], []⟩, _, _, D2.alloc _, Tells.empty, Fit.empty, heap_alloc_new _ _, D2.lim _ (Nat.le_refl _), ⟨_, _, rfl, SlK.nil, SlK.nil⟩, HB2.out.alloc HB2.out.size _, fun j hj => hown j (Nat.lt_of_lt_of_le hj HB1.out.size), HB2.out.size⟩)
  obtain ⟨B4, hB4⟩ : ∃ B4, B4 = w2.heap.size := ⟨_, rfl⟩
  rw [← hB4] at HI
  clear g2 D2 hown hd HB2
  go_wp2_with fail
  try rw [← hB4]
  go_loopw [5] (fun i wr => ∃ k : Nat, k ≤ ss.length ∧ i = .int .i64 k ∧ AllI w h B4 wr) (fun i _ => ss.length - (intOf i).toNat)
  case atStart => exact ⟨0, Nat.zero_le _, rfl, HI.out⟩
  case round =>
    obtain ⟨k, hk, rfl, hI⟩ := hrel
    clear HI hB4 HB1
    by_cases hkl : k < ss.length
    · have HI := Lib.hid hI
      clear hI
      obtain ⟨own, S, d, vn, vp, D, T, F, b4, o4, hd4, hb, hown, hw4⟩ := HI.out
      obtain ⟨b, off, c', he, _, _, hbok, hbl, hce⟩ := HSS.out.addr (by omega)
      simp only [Value.slice.injEq] at he
      obtain ⟨rfl, -, rfl⟩ := he
      obtain ⟨s, hs⟩ : ∃ s, ss[k]'hkl = s := ⟨_, rfl⟩
      have hc := hce k hkl
      rw [hs] at hc
      obtain ⟨_, ⟨cx, vpa, rfl, hcx, hpa⟩, _, hcc⟩ := hc
      obtain ⟨fit1, fit2, fit3⟩ := HFIT.out s (by rw [← hs]; exact List.getElem_mem hkl)
      obtain ⟨r1, r2⟩ := step_ranges (chgOk.len hcx) hcc
      have hcx0 := hcx
      obtain ⟨v0, v1, v2, v3, v4, v5, v6, v7, v8, v9, v10, v11, v12, v13, v14, v15, v16, v17, v18, v19, v20, rfl⟩ := list21 (chgOk.len hcx)
      obtain rfl : v0 = .int .i64 s.chg.kind := by
        obtain ⟨_, _, _, e, _⟩ := hcx
        exact (List.cons.inj e).1
      have hbw : b < w.heap.size := HOK.out b hbok
      have c0 : wr.cell? ⟨b, off + k * 30, none⟩ = some (.int .i64 s.chg.kind) := (range_block r1 (hb.block b hbw)) 0 _ rfl
      obtain ⟨Aq, uq, rfl, _, _⟩ := hpa.form
      have HX := Lib.hid hcx0
      have HPA := Lib.hid hpa
      have HC1 := Lib.hid r1
      have HC2 := Lib.hid (show w.rangeAt b (off + k * 30 + 21) [.int .i64 s.ask.kind, .string s.ask.key, .string s.ask.value, .string s.ask.podKey, .string s.ask.podValue, .int .i64 s.ask.slot, .slice Aq s.ask.pods.length uq, .int .i64 s.ask.cmp, .int .i64 s.ask.n] from r2)
      have HF1 := Lib.hid fit1
      have HF2 := Lib.hid fit2
      have HF3 := Lib.hid fit3
      have HBL := Lib.hid hbl
      have HBOK := Lib.hid hbok
      clear hcx hcx0 hpa hce hcc hs r1 r2 D T F b4 hd4 hb hown fit1 fit2 fit3 hw4
      go_upto_region 8 with fail
      go_cut [24] (fun v W => ∃ q : Bool, v = .bool q ∧ W = wr)
      case first =>
        go_wp2_with fail
        go_meet
        exact ⟨_, rfl, rfl⟩
      obtain ⟨q, rfl, rfl⟩ := hcut
      clear c0
      go_step
      go_cut [25] (fun _ W => AllI w h B4 W ∧ Below w.heap.size w W)
      case first =>
        cases q with
        | false =>
          go_wp2_with fail
          go_meet
          exact ⟨HI.out, by obtain ⟨_, _, _, _, _, _, _, _, _, _, _, hb, _, _⟩ := HI.out; exact hb⟩
        | true =>
          go_wp2_with fail
          obtain ⟨W0, hW0⟩ : ∃ W, W = wc := ⟨_, rfl⟩
          subst hW0
          obtain ⟨own, S, d, vn, vp, D, T, F, b4, o4, hd4, hb, hown, hw4⟩ := HI.out
          have x40 : W0.cell? ⟨B4, 0, none⟩ = some vn := cell_at b4 rfl
          have x41 : W0.cell? ⟨B4, 1, none⟩ = some vp := cell_at b4 rfl
          have l4 : B4 < W0.heap.size := (Array.getElem?_eq_some_iff.1 b4).1
          have lb : b < W0.heap.size := Nat.lt_of_lt_of_le hbw hb.size
          have hr : ∀ W, Below W0.heap.size W0 W → W.rangeAt b (off + k * 30) [.int .i64 s.chg.kind, v1, v2, v3, v4, v5, v6, v7, v8, v9, v10, v11, v12, v13, v14, v15, v16, v17, v18, v19, v20] := fun W hW => range_block HC1.out ((hW.block b lb).trans (hb.block b hbw))
          have HK := Lib.hid (show ∀ W, Below W0.heap.size W0 W → Below W0.heap.size W0 W ∧ W.cell? ⟨B4, 0, none⟩ = some vn ∧ W.cell? ⟨B4, 1, none⟩ = some vp from
            fun W hW => ⟨hW, (hW.cell (p := ⟨B4, 0, none⟩) l4).trans x40, (hW.cell (p := ⟨B4, 1, none⟩) l4).trans x41⟩)
          have YA := Lib.hid (Below.refl W0.heap.size W0).drew
          have YB := Lib.hid ((Below.refl W0.heap.size W0).alloc (Nat.le_refl _) (.cells #[.slice none 0 0, .slice none 0 0] 29)).drew
          have ZB := Lib.hid (show (W0.alloc (.cells #[.slice none 0 0, .slice none 0 0] 29)).drew.heap[W0.heap.size]? = some (.cells #[.slice none 0 0, .slice none 0 0] 29) from heap_alloc_new _ _)
          obtain ⟨e, he⟩ : ∃ e, e = (applyR d s.chg).2 := ⟨_, rfl⟩
          obtain ⟨d2, hd2⟩ : ∃ d2, d2 = (applyR d s.chg).1 := ⟨_, rfl⟩
          have HE := Lib.hid he
          have HD2 := Lib.hid hd2
          obtain ⟨n1, hn1⟩ : ∃ n1, n1 = d2.nodes.length := ⟨_, rfl⟩
          obtain ⟨n2, hn2⟩ : ∃ n2, n2 = d2.pods.length := ⟨_, rfl⟩
          have HN1 := Lib.hid hn1
          have HN2 := Lib.hid hn2
          clear hn1 hn2
          have HD := Lib.hid D
          have HT := Lib.hid T
          have HF := Lib.hid F
          have HB4 := Lib.hid b4
          have HD4 := Lib.hid hd4
          have HB := Lib.hid hb
          have HOWN := Lib.hid hown
          have HW4 := Lib.hid hw4
          have HSX := Lib.hid (show chgK W0 (fun j => j < W0.heap.size ∧ own j = none ∧ j ≠ B4) s.chg [.int .i64 s.chg.kind, v1, v2, v3, v4, v5, v6, v7, v8, v9, v10, v11, v12, v13, v14, v15, v16, v17, v18, v19, v20] from chgOk.mono (chgOk.move HX.out (fun j hj => hb.block j (HOK.out j hj))) (fun j hj => ⟨by have := HOK.out j hj; have := hb.size; omega, hown j (HOK.out j hj), by have := HOK.out j hj; omega⟩))
          have HR1 := Lib.hid hr
          clear hr D T F b4 hd4 hb hown HI he hd2 hw4
          go_cut [6, 7] (fun v6 v7 W => ∃ B6 Cn un Cp up, v6 = .pointer (some ⟨B6, 0, none⟩) ∧ v7 = .int .i64 e ∧ Below W0.heap.size W0 W ∧ W0.heap.size ≤ B6 ∧ W.heap[B6]? = some (.cells #[.slice Cn n1 un, .slice Cp n2 up] 29) ∧ rdomK W (fun j => (j < W0.heap.size ∧ own j = none ∧ j ≠ B4) ∨ (W0.heap.size ≤ j ∧ j < W.heap.size)) d2 [.slice Cn n1 un, .slice Cp n2 up])
          case first =>
            refine wp_region_held_drew (S := (fun W => Below W0.heap.size W0 W ∧ W.cell? ⟨B4, 0, none⟩ = some vn ∧ W.cell? ⟨B4, 1, none⟩ = some vp)) (by kernel_rfl) (HK.out _ YA.out) (fun hHeld => ?_)
            refine' wpAnyH_take (i := 0) (v := _) (List.getElem?_toArray.trans rfl) (by kernel_rfl) (by kernel_rfl) (by kernel_rfl) (fun _ _ _ h => h) (Or.inl ⟨by rfl, ?y0⟩) hHeld ?r0
            case y0 =>
              intro w hSw
              try dsimp only at hSw
              go_simp
              try with_reducible rfl
            try simp only [Act.put, List.setIfInBounds_toArray, List.set_cons_zero, List.set_cons_succ]
            refine' wpAnyH_take (i := 1) (v := _) (List.getElem?_toArray.trans rfl) (by kernel_rfl) (by kernel_rfl) (by kernel_rfl) (fun _ _ _ h => h) (Or.inl ⟨by rfl, ?y1⟩) hHeld ?r1
            case y1 =>
              intro w hSw
              try dsimp only at hSw
              go_simp
              try with_reducible rfl
            try simp only [Act.put, List.setIfInBounds_toArray, List.set_cons_zero, List.set_cons_succ]
            refine' wpAnyH_take (i := 2) (v := _) (List.getElem?_toArray.trans rfl) (by kernel_rfl) (by kernel_rfl) (by kernel_rfl) (fun _ _ _ h => h) (Or.inl ⟨by rfl, ?y2⟩) hHeld ?r2
            case y2 =>
              intro w hSw
              try dsimp only at hSw
              go_simp
              try with_reducible rfl
            try simp only [Act.put, List.setIfInBounds_toArray, List.set_cons_zero, List.set_cons_succ]
            refine' wpAnyH_take (i := 3) (v := _) (List.getElem?_toArray.trans rfl) (by kernel_rfl) (by kernel_rfl) (by kernel_rfl) (fun _ _ _ h => h) (Or.inl ⟨by rfl, ?y3⟩) hHeld ?r3
            case y3 =>
              intro w hSw
              try dsimp only at hSw
              go_simp
              try with_reducible rfl
            try simp only [Act.put, List.setIfInBounds_toArray, List.set_cons_zero, List.set_cons_succ]
            refine' wpAnyH_take (i := 4) (v := _) (List.getElem?_toArray.trans rfl) (by kernel_rfl) (by kernel_rfl) (by kernel_rfl) (fun _ _ _ h => h) (Or.inl ⟨by rfl, ?y4⟩) hHeld ?r4
            case y4 =>
              intro w hSw
              try dsimp only at hSw
              go_simp
              try with_reducible rfl
            try simp only [Act.put, List.setIfInBounds_toArray, List.set_cons_zero, List.set_cons_succ]
            refine' wpAnyH_take (i := 5) (v := _) (List.getElem?_toArray.trans rfl) (by kernel_rfl) (by kernel_rfl) (by kernel_rfl) (fun _ _ _ h => h) (yieldsIf_load_mid (by rfl) 42 _ rfl b (off + k * 30) rfl [.int .i64 s.chg.kind, v1, v2, v3, v4, v5, v6, v7, v8, v9, v10, v11, v12, v13, v14, v15, v16, v17, v18, v19, v20] _ (fun W hW => HR1.out W hW.1) Tryz.underlying42 rfl (by kernel_rfl)) hHeld ?_
            try simp only [Act.put, List.setIfInBounds_toArray, List.set_cons_zero, List.set_cons_succ]
            refine wpAnyH_ready (rs := [6, 10]) (by kernel_rfl) (by simp) ?_
            refine AllReadyH.cons (List.getElem?_toArray.trans rfl) (fun K hK => ?_) (AllReadyH.cons (List.getElem?_toArray.trans rfl) (fun K hK => ?_) AllReadyH.nil)
            · as_aux_lemma =>
                go_simp
                go_at_call 11
                refine rapply_e _ _ (fun j => j < W0.heap.size ∧ own j = none ∧ j ≠ B4) d s.chg [vn, vp] [.int .i64 s.chg.kind, v1, v2, v3, v4, v5, v6, v7, v8, v9, v10, v11, v12, v13, v14, v15, v16, v17, v18, v19, v20] d2 e n1 n2 HD2.out HE.out HN1.out HN2.out (fun j hj => Nat.lt_of_lt_of_le hj.1 YA.out.size) (rdom_move HD4.out (fun j hj => YA.out.block j hj.1)) (chgOk.move HSX.out (fun j hj => YA.out.block j hj.1)) HF1.out (by have := HT.out.nodes_len; omega) (by have := HT.out.pods_len; omega) ?_
                intro Cn un Cp up w5 g5 hd5
                have hd6 := Lib.hid hd5
                clear hd5
                have yb : Below W0.heap.size W0 w5 := YA.out.trans (g5.mono YA.out.size)
                go_wp2_with fail
                refine hK.out _ _ (HK.out _ yb) (fun hHeld => ?_)
                clear hK K
                try simp only [Act.put, List.setIfInBounds_toArray, List.set_cons_zero, List.set_cons_succ]
                as_aux_lemma =>
                  refine' wpAnyH_take (i := 7) (v := _) (List.getElem?_toArray.trans rfl) (by kernel_rfl) (by kernel_rfl) (by kernel_rfl) (fun _ _ _ h => h) (Or.inl ⟨by rfl, ?y7a⟩) hHeld ?r7a
                  case y7a =>
                    intro w hSw
                    try dsimp only at hSw
                    go_simp
                    try with_reducible rfl
                  try simp only [Act.put, List.setIfInBounds_toArray, List.set_cons_zero, List.set_cons_succ]
                  refine' wpAnyH_take (i := 8) (v := _) (List.getElem?_toArray.trans rfl) (by kernel_rfl) (by kernel_rfl) (by kernel_rfl) (fun _ _ _ h => h) (Or.inl ⟨by rfl, ?y8a⟩) hHeld ?r8a
                  case y8a =>
                    intro w hSw
                    try dsimp only at hSw
                    go_simp
                    try with_reducible rfl
                  try simp only [Act.put, List.setIfInBounds_toArray, List.set_cons_zero, List.set_cons_succ]
                  refine' wpAnyH_take (i := 9) (v := _) (List.getElem?_toArray.trans rfl) (by kernel_rfl) (by kernel_rfl) (by kernel_rfl) (fun _ _ _ h => h) (Or.inl ⟨by rfl, ?y9a⟩) hHeld ?r9a
                  case y9a =>
                    intro w hSw
                    try dsimp only at hSw
                    go_simp
                    try with_reducible rfl
                  try simp only [Act.put, List.setIfInBounds_toArray, List.set_cons_zero, List.set_cons_succ]
                  as_aux_lemma =>
                    refine wpAnyH_ready (rs := [10]) (by kernel_rfl) (by simp) ?_
                    refine AllReadyH.cons (List.getElem?_toArray.trans rfl) (fun K hK => ?_) AllReadyH.nil
                    go_simp
                    refine hK.out _ _ (HK.out _ (yb.alloc yb.size _)) (fun hHeld => ?_)
                    clear hK K
                    try simp only [Act.put, List.setIfInBounds_toArray, List.set_cons_zero, List.set_cons_succ]
                    as_aux_lemma =>
                      refine wpAnyH_ready (rs := [11]) (by kernel_rfl) (by simp) ?_
                      refine AllReadyH.cons (List.getElem?_toArray.trans rfl) (fun K hK => ?_) AllReadyH.nil
                      go_simp
                      refine hK.out _ _ (HK.out _ (yb.alloc yb.size _)) (fun hHeld => ?_)
                      clear hK K
                      try simp only [Act.put, List.setIfInBounds_toArray, List.set_cons_zero, List.set_cons_succ]
                      as_aux_lemma =>
                        refine' wpAnyH_take (i := 12) (v := _) (List.getElem?_toArray.trans rfl) (by kernel_rfl) (by kernel_rfl) (by kernel_rfl) (fun _ _ _ h => h) (Or.inl ⟨by rfl, ?y12a⟩) hHeld ?r12a
                        case y12a =>
                          intro w hSw
                          try dsimp only at hSw
                          go_simp
                          try with_reducible rfl
                        try simp only [Act.put, List.setIfInBounds_toArray, List.set_cons_zero, List.set_cons_succ]
                        refine wpAnyH_done (by kernel_rfl) ?_ _
                        go_wp2_with fail
                        go_meet
                        exact ⟨_, Cn, un, Cp, up, rfl, rfl, yb.alloc yb.size _, yb.size, heap_alloc_new _ _, rdomOk.mono (rdom_move (rdomOk.bnd hd6.out) (fun j hj => Below.heap_alloc _ _ _ hj.2)) (fun j hj => by
                          rcases hj with ⟨hj | hj, hl⟩
                          · exact .inl hj
                          · exact .inr ⟨hj, by have := hl; simp; omega⟩)⟩
            · as_aux_lemma =>
                go_simp
                refine hK.out _ _ (HK.out _ YB.out) (fun hHeld => ?_)
                clear hK K
                try simp only [Act.put, List.setIfInBounds_toArray, List.set_cons_zero, List.set_cons_succ]
                as_aux_lemma =>
                  refine wpAnyH_ready (rs := [6]) (by kernel_rfl) (by simp) ?_
                  refine AllReadyH.cons (List.getElem?_toArray.trans rfl) (fun K hK => ?_) AllReadyH.nil
                  go_simp
                  go_at_call 11
                  refine rapply_e _ _ (fun j => j < W0.heap.size ∧ own j = none ∧ j ≠ B4) d s.chg [vn, vp] [.int .i64 s.chg.kind, v1, v2, v3, v4, v5, v6, v7, v8, v9, v10, v11, v12, v13, v14, v15, v16, v17, v18, v19, v20] d2 e n1 n2 HD2.out HE.out HN1.out HN2.out (fun j hj => Nat.lt_of_lt_of_le hj.1 YB.out.size) (rdom_move HD4.out (fun j hj => YB.out.block j hj.1)) (chgOk.move HSX.out (fun j hj => YB.out.block j hj.1)) HF1.out (by have := HT.out.nodes_len; omega) (by have := HT.out.pods_len; omega) ?_
                  intro Cn un Cp up w5 g5 hd5
                  have hd6 := Lib.hid hd5
                  clear hd5
                  have yb : Below W0.heap.size W0 w5 := YB.out.trans (g5.mono YB.out.size)
                  have zz : w5.heap[W0.heap.size]? = some (.cells #[.slice none 0 0, .slice none 0 0] 29) := (g5.block W0.heap.size (by simp)).trans ZB.out
                  have zc0 : w5.cell? ⟨W0.heap.size, 0, none⟩ = some (.slice none 0 0) := cell_at zz rfl
                  have zc1 : w5.cell? ⟨W0.heap.size, 1, none⟩ = some (.slice none 0 0) := cell_at zz rfl
                  have zf0 : w5.frozen? ⟨W0.heap.size, 0, none⟩ = false := frozen_at zz
                  have zf1 : w5.frozen? ⟨W0.heap.size, 1, none⟩ = false := frozen_at zz
                  go_wp2_with fail
                  refine hK.out _ _ (HK.out _ yb) (fun hHeld => ?_)
                  clear hK K
                  try simp only [Act.put, List.setIfInBounds_toArray, List.set_cons_zero, List.set_cons_succ]
                  as_aux_lemma =>
                    refine' wpAnyH_take (i := 7) (v := _) (List.getElem?_toArray.trans rfl) (by kernel_rfl) (by kernel_rfl) (by kernel_rfl) (fun _ _ _ h => h) (Or.inl ⟨by rfl, ?y7b⟩) hHeld ?r7b
                    case y7b =>
                      intro w hSw
                      try dsimp only at hSw
                      go_simp
                      try with_reducible rfl
                    try simp only [Act.put, List.setIfInBounds_toArray, List.set_cons_zero, List.set_cons_succ]
                    refine' wpAnyH_take (i := 8) (v := _) (List.getElem?_toArray.trans rfl) (by kernel_rfl) (by kernel_rfl) (by kernel_rfl) (fun _ _ _ h => h) (Or.inl ⟨by rfl, ?y8b⟩) hHeld ?r8b
                    case y8b =>
                      intro w hSw
                      try dsimp only at hSw
                      go_simp
                      try with_reducible rfl
                    try simp only [Act.put, List.setIfInBounds_toArray, List.set_cons_zero, List.set_cons_succ]
                    refine' wpAnyH_take (i := 9) (v := _) (List.getElem?_toArray.trans rfl) (by kernel_rfl) (by kernel_rfl) (by kernel_rfl) (fun _ _ _ h => h) (Or.inl ⟨by rfl, ?y9b⟩) hHeld ?r9b
                    case y9b =>
                      intro w hSw
                      try dsimp only at hSw
                      go_simp
                      try with_reducible rfl
                    try simp only [Act.put, List.setIfInBounds_toArray, List.set_cons_zero, List.set_cons_succ]
                    as_aux_lemma =>
                      refine wpAnyH_ready (rs := [11]) (by kernel_rfl) (by simp) ?_
                      refine AllReadyH.cons (List.getElem?_toArray.trans rfl) (fun K hK => ?_) AllReadyH.nil
                      go_simp
                      refine hK.out _ _ (HK.out _ (Below.setCell (Below.setCell yb (by simp) _) (by simp) _)) (fun hHeld => ?_)
                      clear hK K
                      try simp only [Act.put, List.setIfInBounds_toArray, List.set_cons_zero, List.set_cons_succ]
                      as_aux_lemma =>
                        refine' wpAnyH_take (i := 12) (v := _) (List.getElem?_toArray.trans rfl) (by kernel_rfl) (by kernel_rfl) (by kernel_rfl) (fun _ _ _ h => h) (Or.inl ⟨by rfl, ?y12b⟩) hHeld ?r12b
                        case y12b =>
                          intro w hSw
                          try dsimp only at hSw
                          go_simp
                          try with_reducible rfl
                        try simp only [Act.put, List.setIfInBounds_toArray, List.set_cons_zero, List.set_cons_succ]
                        refine wpAnyH_done (by kernel_rfl) ?_ _
                        go_wp2_with fail
                        go_meet
                        exact ⟨_, Cn, un, Cp, up, rfl, rfl, Below.setCell (Below.setCell yb (by simp) _) (by simp) _, Nat.le_refl _, heap_setCell_at (heap_setCell_at zz), rdomOk.mono (rdom_move (rdomOk.bnd hd6.out) (fun j hj => by
                          have hne : j ≠ W0.heap.size := by
                            rcases hj with ⟨hj | hj, hl⟩
                            · have := hj.1; omega
                            · simp at hj; omega
                          rw [Below.heap_setCell _ _ _ _ hne, Below.heap_setCell _ _ _ _ hne])) (fun j hj => by
                          rcases hj with ⟨hj | hj, hl⟩
                          · exact .inl hj
                          · simp at hj; exact .inr ⟨by omega, by simpa [World.setCell] using hl⟩)⟩
          obtain ⟨B6, Cn, un, Cp, up, rfl, rfl, yb, h6, b6, hd6⟩ := hcut
          rw [HN1.out, HN2.out] at b6 hd6
          have R1 := HR1.out _ yb
          have hsz := HB.out.size
          have hsz2 := yb.size
          have D1 := Lib.hid (HD.out.below yb)
          have HBW := Lib.hid (HB.out.trans (yb.mono HB.out.size))
          have L4 := Lib.hid ((yb.block B4 l4).trans HB4.out)
          have HX6 := Lib.hid (show chgK wc ok s.chg [.int .i64 s.chg.kind, v1, v2, v3, v4, v5, v6, v7, v8, v9, v10, v11, v12, v13, v14, v15, v16, v17, v18, v19, v20] from chgOk.move HX.out (fun j hj => HBW.out.block j (HOK.out j hj)))
          have HB6 := Lib.hid b6
          have HD6 := Lib.hid hd6
          have HYB := Lib.hid yb
          have O6 := Lib.hid (HD.out.lim B6 h6)
          clear b6 hd6 yb HK YA YB ZB x40 x41
          go_wp2_with (first | refine wpList_load_mid rfl 42 _ rfl b (off + k * 30) rfl [.int .i64 s.chg.kind, v1, v2, v3, v4, v5, v6, v7, v8, v9, v10, v11, v12, v13, v14, v15, v16, v17, v18, v19, v20] _ R1 Tryz.underlying42 rfl (by kernel_rfl) ?_)
          refine copyChange_k _ _ ok s.chg [.int .i64 s.chg.kind, v1, v2, v3, v4, v5, v6, v7, v8, v9, v10, v11, v12, v13, v14, v15, v16, v17, v18, v19, v20] (fun j hj => by have := HOK.out j hj; omega) HX6.out HF2.out ?_
          intro cs2 w6 g6 hx6
          have HG6 := Lib.hid g6
          have HX7 := Lib.hid hx6
          clear g6 hx6
          go_wp2_with fail
          refine dapply_k _ _ h own S d (fun j => wc.heap.size ≤ j ∧ j < w6.heap.size) s.chg cs2 (D1.out.below HG6.out) HT.out HF.out (fun j hj => ⟨hj.2, fun e => e.1 (D1.out.lim j hj.1)⟩) (chgOk.bnd HX7.out) HF1.out (GOk.below HG.out (HBW.out.trans (HG6.out.mono HBW.out.size))) ?_
          intro own2 w7 D7 E7 M7
          have he2 : (if fitsS S s.chg = false then (90 : Int) else 0) = e := (HT.out.apply s.chg).2.symm.trans HE.out.symm
          rw [he2]
          have hs6 := HG6.out.size
          have g7 : Mod (Mut own) wc w7 := ((Mod.of_below HG6.out).non_to).seq M7
          have b67 := g7.keep HB6.out (fun e => e.1 O6.out)
          have b47 := g7.keep L4.out (fun e => e.1 o4)
          have x60 : w7.cell? ⟨B6, 0, none⟩ = some (.slice Cn d2.nodes.length un) := cell_at b67 rfl
          have x61 : w7.cell? ⟨B6, 1, none⟩ = some (.slice Cp d2.pods.length up) := cell_at b67 rfl
          have x40 : w7.cell? ⟨B4, 0, none⟩ = some vn := cell_at b47 rfl
          have x41 : w7.cell? ⟨B4, 1, none⟩ = some vp := cell_at b47 rfl
          have f40 : w7.frozen? ⟨B4, 0, none⟩ = false := frozen_at b47
          have f41 : w7.frozen? ⟨B4, 1, none⟩ = false := frozen_at b47
          have hne6 : ¬ B6 = B4 := by omega
          have o42 : own2 B4 = none := (E7 B4 (by omega)).trans o4
          have hmut : ∀ j, Mut own j → w.heap.size ≤ j := fun j hj => by
            rcases Nat.lt_or_ge j w.heap.size with h1 | h1
            · exact absurd (HOWN.out j h1) hj.1
            · exact h1
          have hB9 : ∀ v1 v2, Below w.heap.size w ((w7.setCell ⟨B4, 0, none⟩ v1).setCell ⟨B4, 1, none⟩ v2) := fun v1 v2 => Below.setCell (Below.setCell (HBW.out.trans (g7.below HBW.out.size hmut)) HW4.out _) HW4.out _
          have hI9 : AllI w h B4 ((w7.setCell ⟨B4, 0, none⟩ (.slice Cn d2.nodes.length un)).setCell ⟨B4, 1, none⟩ (.slice Cp d2.pods.length up)) := by
            refine ⟨own2, applyS S s.chg, d2, .slice Cn d2.nodes.length un, .slice Cp d2.pods.length up, ?_, by rw [HD2.out]; exact (HT.out.apply s.chg).1, by rw [HD2.out]; exact Fit.apply HT.out HF.out HF1.out, heap_setCell_at (heap_setCell_at b47), o42, ?_, hB9 _ _, fun j hj => (E7 j (by omega)).trans (HOWN.out j hj), HW4.out⟩
            · exact D7.mod (X := fun j => j = B4) (Mod.setCell (S := fun j => j = B4) (p := ⟨B4, 1, none⟩) (Mod.setCell (S := fun j => j = B4) (p := ⟨B4, 0, none⟩) (Mod.refl _ w7) (fun _ => rfl) _) (fun _ => rfl) _) (fun j hj => by rw [hj]; exact o42)
            · refine rdomOk.mono (rdom_move HD6.out (fun j hj => ?_)) (fun j hj => ?_)
              · have hj4 : j ≠ B4 := by rcases hj with hj | hj <;> omega
                have hjo : own j = none := by
                  rcases hj with hj | hj
                  · exact hj.2.1
                  · exact HD.out.lim j hj.1
                have hjl : j < wc.heap.size := by rcases hj with hj | hj <;> omega
                rw [Below.heap_setCell _ _ _ _ hj4, Below.heap_setCell _ _ _ _ hj4]
                exact g7.block j hjl (fun e => e.1 hjo)
              · have hjo : own j = none := by
                  rcases hj with hj | hj
                  · exact hj.2.1
                  · exact HD.out.lim j hj.1
                have hjl : j < wc.heap.size := by rcases hj with hj | hj <;> omega
                have := g7.size
                exact ⟨by simp only [World.setCell, Array.size_modify]; omega, (E7 j (by omega)).trans hjo, by rcases hj with hj | hj <;> omega⟩
          have HI9 := Lib.hid hI9
          have HB9 := Lib.hid hB9
          clear hI9 hB9 D7 E7 M7 g7 b67 b47 hmut he2 o42
          go_wp2_with fail
          go_meet
          exact ⟨HI9.out, HB9.out _ _⟩
      obtain ⟨hI2, hb2⟩ := hcut
      have HI2 := Lib.hid hI2
      have HB2 := Lib.hid hb2
      clear hI2 hb2 HI
      obtain ⟨own, S, d, vn, vp, D, T, F, b4, o4, hd4, hb, hown, hw4⟩ := HI2.out
      obtain ⟨W0, hW0⟩ : ∃ W, W = wc := ⟨_, rfl⟩
      subst hW0
      have x40 : W0.cell? ⟨B4, 0, none⟩ = some vn := cell_at b4 rfl
      have x41 : W0.cell? ⟨B4, 1, none⟩ = some vp := cell_at b4 rfl
      have l4 : B4 < W0.heap.size := (Array.getElem?_eq_some_iff.1 b4).1
      have lb : b < W0.heap.size := Nat.lt_of_lt_of_le hbw hb.size
      have hr : ∀ W, Below W0.heap.size W0 W → W.rangeAt b (off + k * 30 + 21) [.int .i64 s.ask.kind, .string s.ask.key, .string s.ask.value, .string s.ask.podKey, .string s.ask.podValue, .int .i64 s.ask.slot, .slice Aq s.ask.pods.length uq, .int .i64 s.ask.cmp, .int .i64 s.ask.n] := fun W hW => range_block HC2.out ((hW.block b lb).trans (hb.block b hbw))
      have HK := Lib.hid (show ∀ W, Below W0.heap.size W0 W → Below W0.heap.size W0 W ∧ W.cell? ⟨B4, 0, none⟩ = some vn ∧ W.cell? ⟨B4, 1, none⟩ = some vp ∧ W.cell? ⟨b, off + k * 30 + 21, none⟩ = some (.int .i64 s.ask.kind) ∧ W.cell? ⟨b, off + k * 30 + 22, none⟩ = some (.string s.ask.key) ∧ W.cell? ⟨b, off + k * 30 + 23, none⟩ = some (.string s.ask.value) ∧ W.cell? ⟨b, off + k * 30 + 24, none⟩ = some (.string s.ask.podKey) ∧ W.cell? ⟨b, off + k * 30 + 25, none⟩ = some (.string s.ask.podValue) ∧ W.cell? ⟨b, off + k * 30 + 26, none⟩ = some (.int .i64 s.ask.slot) ∧ W.cell? ⟨b, off + k * 30 + 27, none⟩ = some (.slice Aq s.ask.pods.length uq) ∧ W.cell? ⟨b, off + k * 30 + 28, none⟩ = some (.int .i64 s.ask.cmp) ∧ W.cell? ⟨b, off + k * 30 + 29, none⟩ = some (.int .i64 s.ask.n) from
        fun W hW => ⟨hW, (hW.cell (p := ⟨B4, 0, none⟩) l4).trans x40, (hW.cell (p := ⟨B4, 1, none⟩) l4).trans x41, (hr W hW) 0 _ rfl, (hr W hW) 1 _ rfl, (hr W hW) 2 _ rfl, (hr W hW) 3 _ rfl, (hr W hW) 4 _ rfl, (hr W hW) 5 _ rfl, (hr W hW) 6 _ rfl, (hr W hW) 7 _ rfl, (hr W hW) 8 _ rfl⟩)
      have YA := Lib.hid (Below.refl W0.heap.size W0).drew
      have HQ := Lib.hid ((Asked.dom D T F).below YA.out)
      have HZ := Lib.hid (Sized.of T F)
      have HD4 := Lib.hid (rdom_move (w' := W0.drew) hd4 (fun j hj => rfl))
      have HV := Lib.hid (SlK.mono intOk (SlK.move intOk (w' := W0.drew) HPA.out (fun j hj => hb.block j (HOK.out j hj))) (ok' := fun j => j < W0.heap.size ∧ own j = none ∧ j ≠ B4) (fun j hj => ⟨by have := HOK.out j hj; have := hb.size; omega, hown j (HOK.out j hj), by have := HOK.out j hj; omega⟩))
      clear hr D T F b4 hd4 hb hown hw4
      go_wp2_with fail
      go_region_held3 (fun W => Below W0.heap.size W0 W ∧ W.cell? ⟨B4, 0, none⟩ = some vn ∧ W.cell? ⟨B4, 1, none⟩ = some vp ∧ W.cell? ⟨b, off + k * 30 + 21, none⟩ = some (.int .i64 s.ask.kind) ∧ W.cell? ⟨b, off + k * 30 + 22, none⟩ = some (.string s.ask.key) ∧ W.cell? ⟨b, off + k * 30 + 23, none⟩ = some (.string s.ask.value) ∧ W.cell? ⟨b, off + k * 30 + 24, none⟩ = some (.string s.ask.podKey) ∧ W.cell? ⟨b, off + k * 30 + 25, none⟩ = some (.string s.ask.podValue) ∧ W.cell? ⟨b, off + k * 30 + 26, none⟩ = some (.int .i64 s.ask.slot) ∧ W.cell? ⟨b, off + k * 30 + 27, none⟩ = some (.slice Aq s.ask.pods.length uq) ∧ W.cell? ⟨b, off + k * 30 + 28, none⟩ = some (.int .i64 s.ask.cmp) ∧ W.cell? ⟨b, off + k * 30 + 29, none⟩ = some (.int .i64 s.ask.n))
        (first
        | exact HK.out _ YA.out
        | exact HK.out _ yb)
        (first
        | (go_at_call 14; refine asks_k _ _ (.pointer (some ⟨h.d, 0, none⟩)) d s.ask (.slice Aq s.ask.pods.length uq) (fun j => j < W0.heap.size ∧ own j = none ∧ j ≠ B4) [vn, vp] HQ.out (fun j hj => hj.1) HD4.out HZ.out HV.out (by have := HF3.out; omega) ?_; intro w9 g9
           have yb : Below W0.heap.size W0 w9 := Below.of_drew g9))
      all_goals (
        have HI9 := Lib.hid (AllI.below HI2.out yb)
        clear yb g9
        go_wp2_with fail
        go_roundw
        case rel => exact ⟨k + 1, by omega, by go_num, HI9.out⟩
        case measure => simp [intOf]; omega)
    · obtain ⟨own, S, d, vn, vp, _, _, _, _, _, _, hb, _, _⟩ := hI
      have hv := HR.out wr hb
      clear hb
      obtain rfl : k = ss.length := by omega
      go_wp2_with fail
      exact hv
end Go.Proofs.YtmenipaibjifiaaGreatDoor
