/-
  quant.both: the names of two lists, merged.
-/
import Derived.Test.YtdceflgemhcgcaaGreatDoorP13
import Derived.Test.YtdceflgemhcgcaaGreatDoorP08
set_option linter.unusedVariables false
set_option linter.unusedSimpArgs false
namespace Go.Proofs.YtdceflgemhcgcaaGreatDoor
open Go.RowKit Go.BigFrame

def bothN : List Itm → List Itm → List ByteArray
  | [], [] => []
  | [], y :: b => y.name :: bothN [] b
  | x :: a, [] => x.name :: bothN a []
  | x :: a, y :: b => if ltB x.name y.name = true then x.name :: bothN a (y :: b) else if ltB y.name x.name = true then y.name :: bothN (x :: a) b else x.name :: bothN a b
termination_by a b => a.length + b.length
theorem bothN_le : ∀ (n : Nat) (a b : List Itm), a.length + b.length ≤ n → (bothN a b).length ≤ a.length + b.length
  | _, [], [], _ => by simp [bothN]
  | 0, _ :: _, _, h => by simp at h
  | 0, [], _ :: _, h => by simp at h
  | n + 1, [], y :: b, h => by
    rw [bothN]
    have := bothN_le n [] b (by simp at h ⊢; omega)
    simp at this ⊢; omega
  | n + 1, x :: a, [], h => by
    rw [bothN]
    have := bothN_le n a [] (by simp at h ⊢; omega)
    simp at this ⊢; omega
  | n + 1, x :: a, y :: b, h => by
    rw [bothN]
    split
    · have := bothN_le n a (y :: b) (by simp at h ⊢; omega)
      simp at this ⊢; omega
    · split
      · have := bothN_le n (x :: a) b (by simp at h ⊢; omega)
        simp at this ⊢; omega
      · have := bothN_le n a b (by simp at h ⊢; omega)
        simp at this ⊢; omega
def lenV : Value → Nat | .slice _ n _ => n | _ => 0
theorem infoStrB : (Tryz.prog.info? 9).map (fun i => (i.zero, i.size, i.bytes)) = some (some (.string ⟨#[]⟩), 1, 16) := by kernel_rfl
theorem SlK.head {w : World} {ok : Nat → Prop} {v : Value} {x : Itm} {xs : List Itm} (h : SlK itmK 2 w ok v (x :: xs)) : ∃ b off n c, v = .slice (some ⟨b, off, none⟩) n c ∧ 0 < n ∧ n ≤ c ∧ c ≤ maxLen ∧ ok b ∧ b < w.heap.size ∧ w.cell? ⟨b, off, none⟩ = some (.string x.name) ∧ SlK itmK 2 w ok (.slice (if c = 1 then some ⟨b, off, none⟩ else some ⟨b, off + 2, none⟩) (n - 1) (c - 1)) xs ∧ n = xs.length + 1 := by
  obtain ⟨A, c, h1, h2, h3, h4⟩ := h
  rcases h4 with h4 | ⟨b, off, rfl, hb, hbl, hc⟩
  · cases h4
  · refine ⟨b, off, (x :: xs).length, c, h1, by simp, h2, h3, hb, hbl, ?_, ?_, by simp⟩
    · obtain ⟨cs, k1, k2, k3⟩ := hc 0 x rfl
      cases k1
      exact k3 0 _ rfl
    · refine ⟨(if c = 1 then some ⟨b, off, none⟩ else some ⟨b, off + 2, none⟩), c - 1, by simp, by simp at h2 ⊢; omega, by omega, ?_⟩
      by_cases hc1 : c = 1
      · left; simp at h2; exact List.eq_nil_of_length_eq_zero (by omega)
      rw [if_neg hc1]
      refine .inr ⟨b, off + 2, rfl, hb, hbl, fun j y hy => ?_⟩
      obtain ⟨cs, k1, k2, k3⟩ := hc (j + 1) y hy
      refine ⟨cs, k1, k2, fun i u hu => ?_⟩
      have := k3 i u hu
      rwa [show off + ((j + 1) * 2 + i) = off + 2 + (j * 2 + i) by omega] at this
theorem wp_append_ {P : Program} {w w1 : World} {o : Oper} {a : Act} {K : Act → World → Prop} {Q : Exit → Act → World → Prop} (s x : Operand) (t : TypeId)
    (ho : o.op = .call { callee := .builtin .append, args := #[s, x], argTypes := #[t, t] }) (v vx v1 : Value) (hs : a.eval s = v) (hx : a.eval x = vx)
    (hrun : (Builtin.append_ #[t, t] o.type #[v, vx]).run P w = .ok v1 w1) (h : K (a.put o.dst v1) w1) : o.wp P a w K Q := by
  unfold Oper.wp
  simp [execOp, ho, resolve, invoke, builtin, hs, hx, hrun, Result.andThen, Oper.upon]
  exact h
theorem bothN_a (x : Itm) (a : List Itm) : bothN (x :: a) [] = x.name :: bothN a [] := by rw [bothN]
theorem bothN_b (y : Itm) (b : List Itm) : bothN [] (y :: b) = y.name :: bothN [] b := by rw [bothN]
theorem bothN_lt {x y : Itm} {a b : List Itm} (h : ltB x.name y.name = true) : bothN (x :: a) (y :: b) = x.name :: bothN a (y :: b) := by rw [bothN, if_pos h]
theorem bothN_gt {x y : Itm} {a b : List Itm} (h : ltB x.name y.name = false) (h2 : ltB y.name x.name = true) : bothN (x :: a) (y :: b) = y.name :: bothN (x :: a) b := by rw [bothN, if_neg (by rw [h]; decide), if_pos h2]
theorem bothN_eq {x y : Itm} {a b : List Itm} (h : ltB x.name y.name = false) (h2 : ltB y.name x.name = false) : bothN (x :: a) (y :: b) = x.name :: bothN a b := by rw [bothN, if_neg (by rw [h]; decide), if_neg (by rw [h2]; decide)]
set_option maxRecDepth 100000 in
set_option maxHeartbeats 8000000 in
theorem both_k (R : Ending → World → Prop) (w : World) (ok : Nat → Prop) (v v2 : Value) (xs ys : List Itm) (hok : ∀ k, ok k → k < w.heap.size) (hx : SlK itmK 2 w ok v xs) (hy : SlK itmK 2 w ok v2 ys) (hl : xs.length ≤ 1073741824) (hl2 : ys.length ≤ 1073741824)
    (hR : ∀ v' w', Below w.heap.size w w' → SlK strsK 1 w' (fun k => w.heap.size ≤ k) v' (bothN xs ys) → R (.returned v') w') :
    Calls Tryz.prog 196 #[v, v2] w R := by
  obtain ⟨A1, n1, c1, e1⟩ : ∃ A n c, v = .slice A n c := by obtain ⟨A, c, e, _⟩ := hx.form; exact ⟨_, _, _, e⟩
  obtain ⟨A2, n2, c2, e2⟩ : ∃ A n c, v2 = .slice A n c := by obtain ⟨A, c, e, _⟩ := hy.form; exact ⟨_, _, _, e⟩
  have HR := Lib.hid hR
  have HOK := Lib.hid hok
  have HX := Lib.hid hx
  have HY := Lib.hid hy
  have HL := Lib.hid hl
  have HL2 := Lib.hid hl2
  clear hR hok hx hy hl hl2
  subst e1
  subst e2
  go_enter Tryz.func196, Tryz.ntmps196
  go_wp2_with fail
  go_loopw [0, 1, 5] (fun a b ns wr => Below w.heap.size w wr ∧ ∃ xa ya nl, SlK itmK 2 w ok a xa ∧ SlK itmK 2 w ok b ya ∧ OwnK strsK 1 9 wr w.heap.size (fun _ => False) ns nl ∧ nl ++ bothN xa ya = bothN xs ys ∧ nl.length + xa.length + ya.length ≤ xs.length + ys.length) (fun a b _ _ => lenV a + lenV b)
  case atStart => exact ⟨Below.refl _ _, xs, ys, [], HX.out, HY.out, OwnK.nil (fun _ h => h.elim), by simp, by simp⟩
  case round =>
    obtain ⟨hB, xa, ya, nl, hxa, hya, ho, hbn, hlen⟩ := hrel
    have HB := Lib.hid hB
    have HO := Lib.hid ho
    have HN := Lib.hid hbn
    have HLEN := Lib.hid hlen
    obtain ⟨An, dn, en, _⟩ := ho.slice
    obtain ⟨nn, hnn⟩ : ∃ n, nl.length = n := ⟨_, rfl⟩
    rw [hnn] at en
    subst en
    clear hB ho hbn hlen hnn
    cases xa with
    | nil =>
      obtain ⟨A0, c0, e0, _, _⟩ := hxa.form
      simp only [List.length_nil] at e0
      subst e0
      have HXA := Lib.hid hxa
      clear hxa
      cases ya with
      | nil =>
        obtain ⟨A1, c1, e1, _, _⟩ := hya.form
        simp only [List.length_nil] at e1
        subst e1
        have hs : SlK strsK 1 wr (fun k => w.heap.size ≤ k) (.slice An nn dn) nl := (HO.out.slk strOk).mono strOk (fun k h => h.elim (fun h => h.elim) (fun h => (HO.out.own k h).1))
        rw [show nl = bothN xs ys by have := HN.out; simpa [bothN] using this] at hs
        have hv := HR.out _ _ HB.out hs
        clear hya hs
        go_wp2_with fail
        exact hv
      | cons y ya =>
        obtain ⟨b1, o1, n1, c1, e1, p1, q1, m1, k1, l1, y1, t1, r1⟩ := hya.head
        subst e1
        obtain ⟨T1, hT1⟩ : ∃ T, (if c1 = 1 then (some ⟨b1, o1, none⟩ : Option Addr) else some ⟨b1, o1 + 2, none⟩) = T := ⟨_, rfl⟩
        rw [hT1] at t1
        have HE1 := Lib.hid hT1
        clear hT1
        have HT1 := Lib.hid t1
        have HR1 := Lib.hid r1
        have g1 : ¬ n1 = 0 := by omega
        have gi1 : ((n1 : Int) == 0) = false := by simpa using g1
        have z1 : wr.cell? ⟨b1, o1, none⟩ = some (.string y.name) := (HB.out.cell (p := ⟨b1, o1, none⟩) l1).trans y1
        clear t1 r1 k1
        have HYA := Lib.hid hya
        clear hya
        have d1 : decide (0 < n1) = true := by simpa using p1
        go_upto_region 4 with fail
        go_cut [25] (fun v W => v = .bool false ∧ W.heap = wr.heap ∧ Below w.heap.size w W)
        case first =>
          go_region
          go_wp2_with fail
          go_meet
          exact ⟨rfl, rfl, by first | exact HB.out.drew | exact below_drewN HB.out _ | exact HB.out⟩
        obtain ⟨rfl, hW, hBc⟩ := hcut
        rename World => w4
        have HB4 := Lib.hid hBc
        have HW4 := Lib.hid (hW)
        clear hW hBc
        go_upto_region 6 with fail
        go_cut [54] (fun v W => v = .bool true ∧ W.heap = w4.heap ∧ Below w.heap.size w W)
        case first =>
          go_quiet (fail)
          go_wp2_with fail
          go_meet
          exact ⟨rfl, rfl, by first | exact HB4.out.drew | exact below_drewN HB4.out _ | exact HB4.out⟩
        obtain ⟨rfl, hW, hBc⟩ := hcut
        rename World => w6
        have HB6 := Lib.hid hBc
        have HW6 := Lib.hid (hW.trans HW4.out)
        clear hW hBc
        have HBc := HB6
        have HOc := Lib.hid (show OwnK strsK 1 9 w6.drew w.heap.size (fun _ => False) (.slice An nn dn) nl from HO.out.move strOk (fun k _ _ => congrArg (fun (h : Array Obj) => h[k]?) HW6.out) (Nat.le_of_eq (congrArg Array.size HW6.out.symm)))
        go_upto_region 7 with fail
        have HKc := Lib.hid (show ∀ W, Below w.heap.size w W → Below w.heap.size w W ∧ W.cell? ⟨b1, o1, none⟩ = some (.string y.name) from fun W hW => ⟨hW, (hW.cell (p := ⟨b1, o1, none⟩) l1).trans y1⟩)
        refine wp_region_held_drew (S := fun W => Below w.heap.size w W ∧ W.cell? ⟨b1, o1, none⟩ = some (.string y.name)) (by kernel_rfl) (HKc.out _ HBc.out.drew) (fun hHeld => ?_)
        refine' wpAnyH_take (i := 0) (v := _) (List.getElem?_toArray.trans rfl) (by kernel_rfl) (by kernel_rfl) (by kernel_rfl) (fun _ _ _ h => h) (Or.inl ⟨by rfl, ?y0zqq⟩) hHeld ?r0zqq
        case y0zqq => intro w h; (try dsimp only at h); go_simp; (try with_reducible rfl)
        try simp only [Act.put, List.setIfInBounds_toArray, List.set_cons_zero, List.set_cons_succ]
        refine' wpAnyH_take (i := 1) (v := _) (List.getElem?_toArray.trans rfl) (by kernel_rfl) (by kernel_rfl) (by kernel_rfl) (fun _ _ _ h => h) (Or.inl ⟨by rfl, ?y1zqq⟩) hHeld ?r1zqq
        case y1zqq => intro w h; (try dsimp only at h); go_simp; (try with_reducible rfl)
        try simp only [Act.put, List.setIfInBounds_toArray, List.set_cons_zero, List.set_cons_succ]
        refine' wpAnyH_take (i := 2) (v := _) (List.getElem?_toArray.trans rfl) (by kernel_rfl) (by kernel_rfl) (by kernel_rfl) (fun _ _ _ h => h) (Or.inl ⟨by rfl, ?y2zqq⟩) hHeld ?r2zqq
        case y2zqq => intro w h; (try dsimp only at h); go_simp; (try with_reducible rfl)
        try simp only [Act.put, List.setIfInBounds_toArray, List.set_cons_zero, List.set_cons_succ]
        refine' wpAnyH_take (i := 3) (v := _) (List.getElem?_toArray.trans rfl) (by kernel_rfl) (by kernel_rfl) (by kernel_rfl) (fun _ _ _ h => h) (Or.inl ⟨by rfl, ?y3zqq⟩) hHeld ?r3zqq
        case y3zqq => intro w h; (try dsimp only at h); go_simp; (try with_reducible rfl)
        try simp only [Act.put, List.setIfInBounds_toArray, List.set_cons_zero, List.set_cons_succ]
        refine' wpAnyH_take (i := 4) (v := _) (List.getElem?_toArray.trans rfl) (by kernel_rfl) (by kernel_rfl) (by kernel_rfl) (fun _ _ _ h => h) (Or.inl ⟨by rfl, ?y4zqq⟩) hHeld ?r4zqq
        case y4zqq => intro w h; (try dsimp only at h); go_simp; (try with_reducible rfl)
        try simp only [Act.put, List.setIfInBounds_toArray, List.set_cons_zero, List.set_cons_succ]
        refine' wpAnyH_take (i := 7) (v := _) (List.getElem?_toArray.trans rfl) (by kernel_rfl) (by kernel_rfl) (by kernel_rfl) (fun _ _ _ h => h) (Or.inl ⟨by rfl, ?y7zqq⟩) hHeld ?r7zqq
        case y7zqq => intro w h; (try dsimp only at h); go_simp; (try with_reducible rfl)
        try simp only [Act.put, List.setIfInBounds_toArray, List.set_cons_zero, List.set_cons_succ]
        refine' wpAnyH_take (i := 8) (v := _) (List.getElem?_toArray.trans rfl) (by kernel_rfl) (by kernel_rfl) (by kernel_rfl) (fun _ _ _ h => h) (Or.inl ⟨by rfl, ?y8zqq⟩) hHeld ?r8zqq
        case y8zqq => intro w h; (try dsimp only at h); go_simp; rw [if_pos (show (1 : Int) ≤ (n1 : Int) by omega), HE1.out]; (try with_reducible rfl)
        try simp only [Act.put, List.setIfInBounds_toArray, List.set_cons_zero, List.set_cons_succ]
        refine wpAnyH_ready (rs := [5]) (by kernel_rfl) (by simp) ?_
        refine AllReadyH.cons (List.getElem?_toArray.trans rfl) (fun K hK => ?_) AllReadyH.nil
        go_simp
        refine hK.out _ _ (HKc.out _ (HBc.out.drew.alloc HBc.out.size _)) (fun hHeld => ?_)
        clear hK K
        try simp only [Act.put, List.setIfInBounds_toArray, List.set_cons_zero, List.set_cons_succ]
        obtain ⟨v1, w1, hrun, hO1, hg1, hat⟩ := append_run (P := Tryz.prog) (W := w6.drew) strOk 90 90 9 (.string ⟨#[]⟩) 16 w.heap.size (fun _ => False) Tryz.underlying90 infoStrB rfl (by decide) (by decide) (.slice An nn dn) nl y.name #[.string y.name] (by simp [Value.oneCell']) HOc.out (by rfl) HBc.out.size (by have := HLEN.out; have := HL.out; have := HL2.out; omega)
        have HO1 := Lib.hid hO1
        have HB1 := Lib.hid (HBc.out.drew.grown hg1 HBc.out.size (fun k h => (HOc.out.own k h).1))
        clear hO1 hg1 hat
        have hrun : (Builtin.append_ #[90, 90] 90 #[.slice An nn dn, .slice (some ⟨w6.heap.size, 0, none⟩) 1 1]).run Tryz.prog (w6.alloc (.cells #[.string y.name] 9)).drew = .ok v1 w1 := hrun
        refine wpAnyH_ready (rs := [6]) (by kernel_rfl) (by simp) ?_
        refine AllReadyH.cons (List.getElem?_toArray.trans rfl) (fun K hK => ?_) AllReadyH.nil
        refine wp_append_ _ _ 90 rfl (.slice An nn dn) (.slice (some ⟨w6.heap.size, 0, none⟩) 1 1) v1 rfl rfl hrun ?_
        refine hK.out _ _ (HKc.out _ HB1.out) (fun hHeld => ?_)
        clear hK K hrun
        try simp only [Act.put, List.setIfInBounds_toArray, List.set_cons_zero, List.set_cons_succ]
        refine' wpAnyH_take (i := 9) (v := _) (List.getElem?_toArray.trans rfl) (by kernel_rfl) (by kernel_rfl) (by kernel_rfl) (fun _ _ _ h => h) (Or.inl ⟨by rfl, ?y9zqq⟩) hHeld ?r9zqq
        case y9zqq => intro w h; (try dsimp only at h); go_simp; (try with_reducible rfl)
        try simp only [Act.put, List.setIfInBounds_toArray, List.set_cons_zero, List.set_cons_succ]
        refine' wpAnyH_take (i := 10) (v := _) (List.getElem?_toArray.trans rfl) (by kernel_rfl) (by kernel_rfl) (by kernel_rfl) (fun _ _ _ h => h) (Or.inl ⟨by rfl, ?y10zqq⟩) hHeld ?r10zqq
        case y10zqq => intro w h; (try dsimp only at h); go_simp; (try with_reducible rfl)
        try simp only [Act.put, List.setIfInBounds_toArray, List.set_cons_zero, List.set_cons_succ]
        refine wpAnyH_done (by kernel_rfl) ?_ _
        go_wp2_with fail
        go_roundw
        case rel => exact ⟨HB1.out, [], ya, nl ++ [y.name], HXA.out, HT1.out, HO1.out, by rw [← HN.out, bothN_b]; simp, by have := HLEN.out; simp at this ⊢; omega⟩
        case measure => simp [lenV]; omega
    | cons x xa =>
      obtain ⟨b0, o0, n0, c0, e0, p0, q0, m0, k0, l0, y0, t0, r0⟩ := hxa.head
      subst e0
      obtain ⟨T0, hT0⟩ : ∃ T, (if c0 = 1 then (some ⟨b0, o0, none⟩ : Option Addr) else some ⟨b0, o0 + 2, none⟩) = T := ⟨_, rfl⟩
      rw [hT0] at t0
      have HE0 := Lib.hid hT0
      clear hT0
      have HT0 := Lib.hid t0
      have HR0 := Lib.hid r0
      have g0 : ¬ n0 = 0 := by omega
      have gi0 : ((n0 : Int) == 0) = false := by simpa using g0
      have z0 : wr.cell? ⟨b0, o0, none⟩ = some (.string x.name) := (HB.out.cell (p := ⟨b0, o0, none⟩) l0).trans y0
      clear t0 r0 k0
      have HXA := Lib.hid hxa
      clear hxa
      have d0 : decide (0 < n0) = true := by simpa using p0
      cases ya with
      | nil =>
        obtain ⟨A1, c1, e1, _, _⟩ := hya.form
        simp only [List.length_nil] at e1
        subst e1
        have HYA := Lib.hid hya
        clear hya
        go_upto_region 4 with fail
        go_cut [25] (fun v W => v = .bool true ∧ W.heap = wr.heap ∧ Below w.heap.size w W)
        case first =>
          go_quiet (fail)
          go_wp2_with fail
          go_meet
          exact ⟨rfl, rfl, by first | exact HB.out.drew | exact below_drewN HB.out _ | exact HB.out⟩
        obtain ⟨rfl, hW, hBc⟩ := hcut
        rename World => w4
        have HB4 := Lib.hid hBc
        have HW4 := Lib.hid (hW)
        clear hW hBc
        have HBc := HB4
        have HOc := Lib.hid (show OwnK strsK 1 9 w4.drew w.heap.size (fun _ => False) (.slice An nn dn) nl from HO.out.move strOk (fun k _ _ => congrArg (fun (h : Array Obj) => h[k]?) HW4.out) (Nat.le_of_eq (congrArg Array.size HW4.out.symm)))
        go_upto_region 5 with fail
        have HKc := Lib.hid (show ∀ W, Below w.heap.size w W → Below w.heap.size w W ∧ W.cell? ⟨b0, o0, none⟩ = some (.string x.name) from fun W hW => ⟨hW, (hW.cell (p := ⟨b0, o0, none⟩) l0).trans y0⟩)
        refine wp_region_held_drew (S := fun W => Below w.heap.size w W ∧ W.cell? ⟨b0, o0, none⟩ = some (.string x.name)) (by kernel_rfl) (HKc.out _ HBc.out.drew) (fun hHeld => ?_)
        refine' wpAnyH_take (i := 0) (v := _) (List.getElem?_toArray.trans rfl) (by kernel_rfl) (by kernel_rfl) (by kernel_rfl) (fun _ _ _ h => h) (Or.inl ⟨by rfl, ?y0zqqq⟩) hHeld ?r0zqqq
        case y0zqqq => intro w h; (try dsimp only at h); go_simp; (try with_reducible rfl)
        try simp only [Act.put, List.setIfInBounds_toArray, List.set_cons_zero, List.set_cons_succ]
        refine' wpAnyH_take (i := 1) (v := _) (List.getElem?_toArray.trans rfl) (by kernel_rfl) (by kernel_rfl) (by kernel_rfl) (fun _ _ _ h => h) (Or.inl ⟨by rfl, ?y1zqqq⟩) hHeld ?r1zqqq
        case y1zqqq => intro w h; (try dsimp only at h); go_simp; (try with_reducible rfl)
        try simp only [Act.put, List.setIfInBounds_toArray, List.set_cons_zero, List.set_cons_succ]
        refine' wpAnyH_take (i := 2) (v := _) (List.getElem?_toArray.trans rfl) (by kernel_rfl) (by kernel_rfl) (by kernel_rfl) (fun _ _ _ h => h) (Or.inl ⟨by rfl, ?y2zqqq⟩) hHeld ?r2zqqq
        case y2zqqq => intro w h; (try dsimp only at h); go_simp; (try with_reducible rfl)
        try simp only [Act.put, List.setIfInBounds_toArray, List.set_cons_zero, List.set_cons_succ]
        refine' wpAnyH_take (i := 3) (v := _) (List.getElem?_toArray.trans rfl) (by kernel_rfl) (by kernel_rfl) (by kernel_rfl) (fun _ _ _ h => h) (Or.inl ⟨by rfl, ?y3zqqq⟩) hHeld ?r3zqqq
        case y3zqqq => intro w h; (try dsimp only at h); go_simp; (try with_reducible rfl)
        try simp only [Act.put, List.setIfInBounds_toArray, List.set_cons_zero, List.set_cons_succ]
        refine' wpAnyH_take (i := 4) (v := _) (List.getElem?_toArray.trans rfl) (by kernel_rfl) (by kernel_rfl) (by kernel_rfl) (fun _ _ _ h => h) (Or.inl ⟨by rfl, ?y4zqqq⟩) hHeld ?r4zqqq
        case y4zqqq => intro w h; (try dsimp only at h); go_simp; (try with_reducible rfl)
        try simp only [Act.put, List.setIfInBounds_toArray, List.set_cons_zero, List.set_cons_succ]
        refine' wpAnyH_take (i := 7) (v := _) (List.getElem?_toArray.trans rfl) (by kernel_rfl) (by kernel_rfl) (by kernel_rfl) (fun _ _ _ h => h) (Or.inl ⟨by rfl, ?y7zqqq⟩) hHeld ?r7zqqq
        case y7zqqq => intro w h; (try dsimp only at h); go_simp; (try with_reducible rfl)
        try simp only [Act.put, List.setIfInBounds_toArray, List.set_cons_zero, List.set_cons_succ]
        refine' wpAnyH_take (i := 8) (v := _) (List.getElem?_toArray.trans rfl) (by kernel_rfl) (by kernel_rfl) (by kernel_rfl) (fun _ _ _ h => h) (Or.inl ⟨by rfl, ?y8zqqq⟩) hHeld ?r8zqqq
        case y8zqqq => intro w h; (try dsimp only at h); go_simp; rw [if_pos (show (1 : Int) ≤ (n0 : Int) by omega), HE0.out]; (try with_reducible rfl)
        try simp only [Act.put, List.setIfInBounds_toArray, List.set_cons_zero, List.set_cons_succ]
        refine wpAnyH_ready (rs := [5]) (by kernel_rfl) (by simp) ?_
        refine AllReadyH.cons (List.getElem?_toArray.trans rfl) (fun K hK => ?_) AllReadyH.nil
        go_simp
        refine hK.out _ _ (HKc.out _ (HBc.out.drew.alloc HBc.out.size _)) (fun hHeld => ?_)
        clear hK K
        try simp only [Act.put, List.setIfInBounds_toArray, List.set_cons_zero, List.set_cons_succ]
        obtain ⟨v1, w1, hrun, hO1, hg1, hat⟩ := append_run (P := Tryz.prog) (W := w4.drew) strOk 90 90 9 (.string ⟨#[]⟩) 16 w.heap.size (fun _ => False) Tryz.underlying90 infoStrB rfl (by decide) (by decide) (.slice An nn dn) nl x.name #[.string x.name] (by simp [Value.oneCell']) HOc.out (by rfl) HBc.out.size (by have := HLEN.out; have := HL.out; have := HL2.out; omega)
        have HO1 := Lib.hid hO1
        have HB1 := Lib.hid (HBc.out.drew.grown hg1 HBc.out.size (fun k h => (HOc.out.own k h).1))
        clear hO1 hg1 hat
        have hrun : (Builtin.append_ #[90, 90] 90 #[.slice An nn dn, .slice (some ⟨w4.heap.size, 0, none⟩) 1 1]).run Tryz.prog (w4.alloc (.cells #[.string x.name] 9)).drew = .ok v1 w1 := hrun
        refine wpAnyH_ready (rs := [6]) (by kernel_rfl) (by simp) ?_
        refine AllReadyH.cons (List.getElem?_toArray.trans rfl) (fun K hK => ?_) AllReadyH.nil
        refine wp_append_ _ _ 90 rfl (.slice An nn dn) (.slice (some ⟨w4.heap.size, 0, none⟩) 1 1) v1 rfl rfl hrun ?_
        refine hK.out _ _ (HKc.out _ HB1.out) (fun hHeld => ?_)
        clear hK K hrun
        try simp only [Act.put, List.setIfInBounds_toArray, List.set_cons_zero, List.set_cons_succ]
        refine' wpAnyH_take (i := 9) (v := _) (List.getElem?_toArray.trans rfl) (by kernel_rfl) (by kernel_rfl) (by kernel_rfl) (fun _ _ _ h => h) (Or.inl ⟨by rfl, ?y9zqqq⟩) hHeld ?r9zqqq
        case y9zqqq => intro w h; (try dsimp only at h); go_simp; (try with_reducible rfl)
        try simp only [Act.put, List.setIfInBounds_toArray, List.set_cons_zero, List.set_cons_succ]
        refine' wpAnyH_take (i := 10) (v := _) (List.getElem?_toArray.trans rfl) (by kernel_rfl) (by kernel_rfl) (by kernel_rfl) (fun _ _ _ h => h) (Or.inl ⟨by rfl, ?y10zqqq⟩) hHeld ?r10zqqq
        case y10zqqq => intro w h; (try dsimp only at h); go_simp; (try with_reducible rfl)
        try simp only [Act.put, List.setIfInBounds_toArray, List.set_cons_zero, List.set_cons_succ]
        refine wpAnyH_done (by kernel_rfl) ?_ _
        go_wp2_with fail
        go_roundw
        case rel => exact ⟨HB1.out, xa, [], nl ++ [x.name], HT0.out, HYA.out, HO1.out, by rw [← HN.out, bothN_a]; simp, by have := HLEN.out; simp at this ⊢; omega⟩
        case measure => simp [lenV]; omega
      | cons y ya =>
        obtain ⟨b1, o1, n1, c1, e1, p1, q1, m1, k1, l1, y1, t1, r1⟩ := hya.head
        subst e1
        obtain ⟨T1, hT1⟩ : ∃ T, (if c1 = 1 then (some ⟨b1, o1, none⟩ : Option Addr) else some ⟨b1, o1 + 2, none⟩) = T := ⟨_, rfl⟩
        rw [hT1] at t1
        have HE1 := Lib.hid hT1
        clear hT1
        have HT1 := Lib.hid t1
        have HR1 := Lib.hid r1
        have g1 : ¬ n1 = 0 := by omega
        have gi1 : ((n1 : Int) == 0) = false := by simpa using g1
        have z1 : wr.cell? ⟨b1, o1, none⟩ = some (.string y.name) := (HB.out.cell (p := ⟨b1, o1, none⟩) l1).trans y1
        clear t1 r1 k1
        have HYA := Lib.hid hya
        clear hya
        have d1 : decide (0 < n1) = true := by simpa using p1
        cases h1 : ltB x.name y.name with
        | true =>
          have H1 := Lib.hid h1
          have c1' : Op.bytesLess x.name.toList y.name.toList = true := h1
          clear h1
          go_upto_region 4 with fail
          go_cut [25] (fun v W => v = .bool true ∧ W.heap = wr.heap ∧ Below w.heap.size w W)
          case first =>
            go_region
            go_wp2_with fail
            go_meet
            exact ⟨rfl, rfl, by first | exact HB.out.drew | exact below_drewN HB.out _ | exact HB.out⟩
          obtain ⟨rfl, hW, hBc⟩ := hcut
          rename World => w4
          have HB4 := Lib.hid hBc
          have HW4 := Lib.hid (hW)
          clear hW hBc
          have HBc := HB4
          have HOc := Lib.hid (show OwnK strsK 1 9 w4.drew w.heap.size (fun _ => False) (.slice An nn dn) nl from HO.out.move strOk (fun k _ _ => congrArg (fun (h : Array Obj) => h[k]?) HW4.out) (Nat.le_of_eq (congrArg Array.size HW4.out.symm)))
          go_upto_region 5 with fail
          have HKc := Lib.hid (show ∀ W, Below w.heap.size w W → Below w.heap.size w W ∧ W.cell? ⟨b0, o0, none⟩ = some (.string x.name) from fun W hW => ⟨hW, (hW.cell (p := ⟨b0, o0, none⟩) l0).trans y0⟩)
          refine wp_region_held_drew (S := fun W => Below w.heap.size w W ∧ W.cell? ⟨b0, o0, none⟩ = some (.string x.name)) (by kernel_rfl) (HKc.out _ HBc.out.drew) (fun hHeld => ?_)
          refine' wpAnyH_take (i := 0) (v := _) (List.getElem?_toArray.trans rfl) (by kernel_rfl) (by kernel_rfl) (by kernel_rfl) (fun _ _ _ h => h) (Or.inl ⟨by rfl, ?y0zqqqq⟩) hHeld ?r0zqqqq
          case y0zqqqq => intro w h; (try dsimp only at h); go_simp; (try with_reducible rfl)
          try simp only [Act.put, List.setIfInBounds_toArray, List.set_cons_zero, List.set_cons_succ]
          refine' wpAnyH_take (i := 1) (v := _) (List.getElem?_toArray.trans rfl) (by kernel_rfl) (by kernel_rfl) (by kernel_rfl) (fun _ _ _ h => h) (Or.inl ⟨by rfl, ?y1zqqqq⟩) hHeld ?r1zqqqq
          case y1zqqqq => intro w h; (try dsimp only at h); go_simp; (try with_reducible rfl)
          try simp only [Act.put, List.setIfInBounds_toArray, List.set_cons_zero, List.set_cons_succ]
          refine' wpAnyH_take (i := 2) (v := _) (List.getElem?_toArray.trans rfl) (by kernel_rfl) (by kernel_rfl) (by kernel_rfl) (fun _ _ _ h => h) (Or.inl ⟨by rfl, ?y2zqqqq⟩) hHeld ?r2zqqqq
          case y2zqqqq => intro w h; (try dsimp only at h); go_simp; (try with_reducible rfl)
          try simp only [Act.put, List.setIfInBounds_toArray, List.set_cons_zero, List.set_cons_succ]
          refine' wpAnyH_take (i := 3) (v := _) (List.getElem?_toArray.trans rfl) (by kernel_rfl) (by kernel_rfl) (by kernel_rfl) (fun _ _ _ h => h) (Or.inl ⟨by rfl, ?y3zqqqq⟩) hHeld ?r3zqqqq
          case y3zqqqq => intro w h; (try dsimp only at h); go_simp; (try with_reducible rfl)
          try simp only [Act.put, List.setIfInBounds_toArray, List.set_cons_zero, List.set_cons_succ]
          refine' wpAnyH_take (i := 4) (v := _) (List.getElem?_toArray.trans rfl) (by kernel_rfl) (by kernel_rfl) (by kernel_rfl) (fun _ _ _ h => h) (Or.inl ⟨by rfl, ?y4zqqqq⟩) hHeld ?r4zqqqq
          case y4zqqqq => intro w h; (try dsimp only at h); go_simp; (try with_reducible rfl)
          try simp only [Act.put, List.setIfInBounds_toArray, List.set_cons_zero, List.set_cons_succ]
          refine' wpAnyH_take (i := 7) (v := _) (List.getElem?_toArray.trans rfl) (by kernel_rfl) (by kernel_rfl) (by kernel_rfl) (fun _ _ _ h => h) (Or.inl ⟨by rfl, ?y7zqqqq⟩) hHeld ?r7zqqqq
          case y7zqqqq => intro w h; (try dsimp only at h); go_simp; (try with_reducible rfl)
          try simp only [Act.put, List.setIfInBounds_toArray, List.set_cons_zero, List.set_cons_succ]
          refine' wpAnyH_take (i := 8) (v := _) (List.getElem?_toArray.trans rfl) (by kernel_rfl) (by kernel_rfl) (by kernel_rfl) (fun _ _ _ h => h) (Or.inl ⟨by rfl, ?y8zqqqq⟩) hHeld ?r8zqqqq
          case y8zqqqq => intro w h; (try dsimp only at h); go_simp; rw [if_pos (show (1 : Int) ≤ (n0 : Int) by omega), HE0.out]; (try with_reducible rfl)
          try simp only [Act.put, List.setIfInBounds_toArray, List.set_cons_zero, List.set_cons_succ]
          refine wpAnyH_ready (rs := [5]) (by kernel_rfl) (by simp) ?_
          refine AllReadyH.cons (List.getElem?_toArray.trans rfl) (fun K hK => ?_) AllReadyH.nil
          go_simp
          refine hK.out _ _ (HKc.out _ (HBc.out.drew.alloc HBc.out.size _)) (fun hHeld => ?_)
          clear hK K
          try simp only [Act.put, List.setIfInBounds_toArray, List.set_cons_zero, List.set_cons_succ]
          obtain ⟨v1, w1, hrun, hO1, hg1, hat⟩ := append_run (P := Tryz.prog) (W := w4.drew) strOk 90 90 9 (.string ⟨#[]⟩) 16 w.heap.size (fun _ => False) Tryz.underlying90 infoStrB rfl (by decide) (by decide) (.slice An nn dn) nl x.name #[.string x.name] (by simp [Value.oneCell']) HOc.out (by rfl) HBc.out.size (by have := HLEN.out; have := HL.out; have := HL2.out; omega)
          have HO1 := Lib.hid hO1
          have HB1 := Lib.hid (HBc.out.drew.grown hg1 HBc.out.size (fun k h => (HOc.out.own k h).1))
          clear hO1 hg1 hat
          have hrun : (Builtin.append_ #[90, 90] 90 #[.slice An nn dn, .slice (some ⟨w4.heap.size, 0, none⟩) 1 1]).run Tryz.prog (w4.alloc (.cells #[.string x.name] 9)).drew = .ok v1 w1 := hrun
          refine wpAnyH_ready (rs := [6]) (by kernel_rfl) (by simp) ?_
          refine AllReadyH.cons (List.getElem?_toArray.trans rfl) (fun K hK => ?_) AllReadyH.nil
          refine wp_append_ _ _ 90 rfl (.slice An nn dn) (.slice (some ⟨w4.heap.size, 0, none⟩) 1 1) v1 rfl rfl hrun ?_
          refine hK.out _ _ (HKc.out _ HB1.out) (fun hHeld => ?_)
          clear hK K hrun
          try simp only [Act.put, List.setIfInBounds_toArray, List.set_cons_zero, List.set_cons_succ]
          refine' wpAnyH_take (i := 9) (v := _) (List.getElem?_toArray.trans rfl) (by kernel_rfl) (by kernel_rfl) (by kernel_rfl) (fun _ _ _ h => h) (Or.inl ⟨by rfl, ?y9zqqqq⟩) hHeld ?r9zqqqq
          case y9zqqqq => intro w h; (try dsimp only at h); go_simp; (try with_reducible rfl)
          try simp only [Act.put, List.setIfInBounds_toArray, List.set_cons_zero, List.set_cons_succ]
          refine' wpAnyH_take (i := 10) (v := _) (List.getElem?_toArray.trans rfl) (by kernel_rfl) (by kernel_rfl) (by kernel_rfl) (fun _ _ _ h => h) (Or.inl ⟨by rfl, ?y10zqqqq⟩) hHeld ?r10zqqqq
          case y10zqqqq => intro w h; (try dsimp only at h); go_simp; (try with_reducible rfl)
          try simp only [Act.put, List.setIfInBounds_toArray, List.set_cons_zero, List.set_cons_succ]
          refine wpAnyH_done (by kernel_rfl) ?_ _
          go_wp2_with fail
          go_roundw
          case rel => exact ⟨HB1.out, xa, (y :: ya), nl ++ [x.name], HT0.out, HYA.out, HO1.out, by rw [← HN.out, bothN_lt H1.out]; simp, by have := HLEN.out; simp at this ⊢; omega⟩
          case measure => simp [lenV]; omega
        | false =>
          cases h2 : ltB y.name x.name with
          | true =>
            have H1 := Lib.hid h1
            have H2 := Lib.hid h2
            have c1' : Op.bytesLess x.name.toList y.name.toList = false := h1
            have c2' : Op.bytesLess y.name.toList x.name.toList = true := h2
            clear h1 h2
            go_upto_region 4 with fail
            go_cut [25] (fun v W => v = .bool false ∧ W.heap = wr.heap ∧ Below w.heap.size w W)
            case first =>
              go_region
              go_wp2_with fail
              go_meet
              exact ⟨rfl, rfl, by first | exact HB.out.drew | exact below_drewN HB.out _ | exact HB.out⟩
            obtain ⟨rfl, hW, hBc⟩ := hcut
            rename World => w4
            have HB4 := Lib.hid hBc
            have HW4 := Lib.hid (hW)
            clear hW hBc
            have z40 : w4.cell? ⟨b0, o0, none⟩ = some (.string x.name) := (HB4.out.cell (p := ⟨b0, o0, none⟩) l0).trans y0
            have z41 : w4.cell? ⟨b1, o1, none⟩ = some (.string y.name) := (HB4.out.cell (p := ⟨b1, o1, none⟩) l1).trans y1
            go_upto_region 6 with fail
            go_cut [54] (fun v W => v = .bool true ∧ W.heap = w4.heap ∧ Below w.heap.size w W)
            case first =>
              go_region
              go_wp2_with fail
              go_meet
              exact ⟨rfl, rfl, by first | exact HB4.out.drew | exact below_drewN HB4.out _ | exact HB4.out⟩
            obtain ⟨rfl, hW, hBc⟩ := hcut
            rename World => w6
            have HB6 := Lib.hid hBc
            have HW6 := Lib.hid (hW.trans HW4.out)
            clear hW hBc
            have HBc := HB6
            have HOc := Lib.hid (show OwnK strsK 1 9 w6.drew w.heap.size (fun _ => False) (.slice An nn dn) nl from HO.out.move strOk (fun k _ _ => congrArg (fun (h : Array Obj) => h[k]?) HW6.out) (Nat.le_of_eq (congrArg Array.size HW6.out.symm)))
            go_upto_region 7 with fail
            have HKc := Lib.hid (show ∀ W, Below w.heap.size w W → Below w.heap.size w W ∧ W.cell? ⟨b1, o1, none⟩ = some (.string y.name) from fun W hW => ⟨hW, (hW.cell (p := ⟨b1, o1, none⟩) l1).trans y1⟩)
            refine wp_region_held_drew (S := fun W => Below w.heap.size w W ∧ W.cell? ⟨b1, o1, none⟩ = some (.string y.name)) (by kernel_rfl) (HKc.out _ HBc.out.drew) (fun hHeld => ?_)
            refine' wpAnyH_take (i := 0) (v := _) (List.getElem?_toArray.trans rfl) (by kernel_rfl) (by kernel_rfl) (by kernel_rfl) (fun _ _ _ h => h) (Or.inl ⟨by rfl, ?y0zqqqqq⟩) hHeld ?r0zqqqqq
            case y0zqqqqq => intro w h; (try dsimp only at h); go_simp; (try with_reducible rfl)
            try simp only [Act.put, List.setIfInBounds_toArray, List.set_cons_zero, List.set_cons_succ]
            refine' wpAnyH_take (i := 1) (v := _) (List.getElem?_toArray.trans rfl) (by kernel_rfl) (by kernel_rfl) (by kernel_rfl) (fun _ _ _ h => h) (Or.inl ⟨by rfl, ?y1zqqqqq⟩) hHeld ?r1zqqqqq
            case y1zqqqqq => intro w h; (try dsimp only at h); go_simp; (try with_reducible rfl)
            try simp only [Act.put, List.setIfInBounds_toArray, List.set_cons_zero, List.set_cons_succ]
            refine' wpAnyH_take (i := 2) (v := _) (List.getElem?_toArray.trans rfl) (by kernel_rfl) (by kernel_rfl) (by kernel_rfl) (fun _ _ _ h => h) (Or.inl ⟨by rfl, ?y2zqqqqq⟩) hHeld ?r2zqqqqq
            case y2zqqqqq => intro w h; (try dsimp only at h); go_simp; (try with_reducible rfl)
            try simp only [Act.put, List.setIfInBounds_toArray, List.set_cons_zero, List.set_cons_succ]
            refine' wpAnyH_take (i := 3) (v := _) (List.getElem?_toArray.trans rfl) (by kernel_rfl) (by kernel_rfl) (by kernel_rfl) (fun _ _ _ h => h) (Or.inl ⟨by rfl, ?y3zqqqqq⟩) hHeld ?r3zqqqqq
            case y3zqqqqq => intro w h; (try dsimp only at h); go_simp; (try with_reducible rfl)
            try simp only [Act.put, List.setIfInBounds_toArray, List.set_cons_zero, List.set_cons_succ]
            refine' wpAnyH_take (i := 4) (v := _) (List.getElem?_toArray.trans rfl) (by kernel_rfl) (by kernel_rfl) (by kernel_rfl) (fun _ _ _ h => h) (Or.inl ⟨by rfl, ?y4zqqqqq⟩) hHeld ?r4zqqqqq
            case y4zqqqqq => intro w h; (try dsimp only at h); go_simp; (try with_reducible rfl)
            try simp only [Act.put, List.setIfInBounds_toArray, List.set_cons_zero, List.set_cons_succ]
            refine' wpAnyH_take (i := 7) (v := _) (List.getElem?_toArray.trans rfl) (by kernel_rfl) (by kernel_rfl) (by kernel_rfl) (fun _ _ _ h => h) (Or.inl ⟨by rfl, ?y7zqqqqq⟩) hHeld ?r7zqqqqq
            case y7zqqqqq => intro w h; (try dsimp only at h); go_simp; (try with_reducible rfl)
            try simp only [Act.put, List.setIfInBounds_toArray, List.set_cons_zero, List.set_cons_succ]
            refine' wpAnyH_take (i := 8) (v := _) (List.getElem?_toArray.trans rfl) (by kernel_rfl) (by kernel_rfl) (by kernel_rfl) (fun _ _ _ h => h) (Or.inl ⟨by rfl, ?y8zqqqqq⟩) hHeld ?r8zqqqqq
            case y8zqqqqq => intro w h; (try dsimp only at h); go_simp; rw [if_pos (show (1 : Int) ≤ (n1 : Int) by omega), HE1.out]; (try with_reducible rfl)
            try simp only [Act.put, List.setIfInBounds_toArray, List.set_cons_zero, List.set_cons_succ]
            refine wpAnyH_ready (rs := [5]) (by kernel_rfl) (by simp) ?_
            refine AllReadyH.cons (List.getElem?_toArray.trans rfl) (fun K hK => ?_) AllReadyH.nil
            go_simp
            refine hK.out _ _ (HKc.out _ (HBc.out.drew.alloc HBc.out.size _)) (fun hHeld => ?_)
            clear hK K
            try simp only [Act.put, List.setIfInBounds_toArray, List.set_cons_zero, List.set_cons_succ]
            obtain ⟨v1, w1, hrun, hO1, hg1, hat⟩ := append_run (P := Tryz.prog) (W := w6.drew) strOk 90 90 9 (.string ⟨#[]⟩) 16 w.heap.size (fun _ => False) Tryz.underlying90 infoStrB rfl (by decide) (by decide) (.slice An nn dn) nl y.name #[.string y.name] (by simp [Value.oneCell']) HOc.out (by rfl) HBc.out.size (by have := HLEN.out; have := HL.out; have := HL2.out; omega)
            have HO1 := Lib.hid hO1
            have HB1 := Lib.hid (HBc.out.drew.grown hg1 HBc.out.size (fun k h => (HOc.out.own k h).1))
            clear hO1 hg1 hat
            have hrun : (Builtin.append_ #[90, 90] 90 #[.slice An nn dn, .slice (some ⟨w6.heap.size, 0, none⟩) 1 1]).run Tryz.prog (w6.alloc (.cells #[.string y.name] 9)).drew = .ok v1 w1 := hrun
            refine wpAnyH_ready (rs := [6]) (by kernel_rfl) (by simp) ?_
            refine AllReadyH.cons (List.getElem?_toArray.trans rfl) (fun K hK => ?_) AllReadyH.nil
            refine wp_append_ _ _ 90 rfl (.slice An nn dn) (.slice (some ⟨w6.heap.size, 0, none⟩) 1 1) v1 rfl rfl hrun ?_
            refine hK.out _ _ (HKc.out _ HB1.out) (fun hHeld => ?_)
            clear hK K hrun
            try simp only [Act.put, List.setIfInBounds_toArray, List.set_cons_zero, List.set_cons_succ]
            refine' wpAnyH_take (i := 9) (v := _) (List.getElem?_toArray.trans rfl) (by kernel_rfl) (by kernel_rfl) (by kernel_rfl) (fun _ _ _ h => h) (Or.inl ⟨by rfl, ?y9zqqqqq⟩) hHeld ?r9zqqqqq
            case y9zqqqqq => intro w h; (try dsimp only at h); go_simp; (try with_reducible rfl)
            try simp only [Act.put, List.setIfInBounds_toArray, List.set_cons_zero, List.set_cons_succ]
            refine' wpAnyH_take (i := 10) (v := _) (List.getElem?_toArray.trans rfl) (by kernel_rfl) (by kernel_rfl) (by kernel_rfl) (fun _ _ _ h => h) (Or.inl ⟨by rfl, ?y10zqqqqq⟩) hHeld ?r10zqqqqq
            case y10zqqqqq => intro w h; (try dsimp only at h); go_simp; (try with_reducible rfl)
            try simp only [Act.put, List.setIfInBounds_toArray, List.set_cons_zero, List.set_cons_succ]
            refine wpAnyH_done (by kernel_rfl) ?_ _
            go_wp2_with fail
            go_roundw
            case rel => exact ⟨HB1.out, (x :: xa), ya, nl ++ [y.name], HXA.out, HT1.out, HO1.out, by rw [← HN.out, bothN_gt H1.out H2.out]; simp, by have := HLEN.out; simp at this ⊢; omega⟩
            case measure => simp [lenV]; omega
          | false =>
            have H1 := Lib.hid h1
            have H2 := Lib.hid h2
            have c1' : Op.bytesLess x.name.toList y.name.toList = false := h1
            have c2' : Op.bytesLess y.name.toList x.name.toList = false := h2
            clear h1 h2
            go_upto_region 4 with fail
            go_cut [25] (fun v W => v = .bool false ∧ W.heap = wr.heap ∧ Below w.heap.size w W)
            case first =>
              go_region
              go_wp2_with fail
              go_meet
              exact ⟨rfl, rfl, by first | exact HB.out.drew | exact below_drewN HB.out _ | exact HB.out⟩
            obtain ⟨rfl, hW, hBc⟩ := hcut
            rename World => w4
            have HB4 := Lib.hid hBc
            have HW4 := Lib.hid (hW)
            clear hW hBc
            have z40 : w4.cell? ⟨b0, o0, none⟩ = some (.string x.name) := (HB4.out.cell (p := ⟨b0, o0, none⟩) l0).trans y0
            have z41 : w4.cell? ⟨b1, o1, none⟩ = some (.string y.name) := (HB4.out.cell (p := ⟨b1, o1, none⟩) l1).trans y1
            go_upto_region 6 with fail
            go_cut [54] (fun v W => v = .bool false ∧ W.heap = w4.heap ∧ Below w.heap.size w W)
            case first =>
              go_region
              go_wp2_with fail
              go_meet
              exact ⟨rfl, rfl, by first | exact HB4.out.drew | exact below_drewN HB4.out _ | exact HB4.out⟩
            obtain ⟨rfl, hW, hBc⟩ := hcut
            rename World => w6
            have HB6 := Lib.hid hBc
            have HW6 := Lib.hid (hW.trans HW4.out)
            clear hW hBc
            have HBc := HB6
            have HOc := Lib.hid (show OwnK strsK 1 9 w6.drew w.heap.size (fun _ => False) (.slice An nn dn) nl from HO.out.move strOk (fun k _ _ => congrArg (fun (h : Array Obj) => h[k]?) HW6.out) (Nat.le_of_eq (congrArg Array.size HW6.out.symm)))
            go_upto_region 3 with fail
            have HKc := Lib.hid (show ∀ W, Below w.heap.size w W → Below w.heap.size w W ∧ W.cell? ⟨b0, o0, none⟩ = some (.string x.name) from fun W hW => ⟨hW, (hW.cell (p := ⟨b0, o0, none⟩) l0).trans y0⟩)
            refine wp_region_held_drew (S := fun W => Below w.heap.size w W ∧ W.cell? ⟨b0, o0, none⟩ = some (.string x.name)) (by kernel_rfl) (HKc.out _ HBc.out.drew) (fun hHeld => ?_)
            refine' wpAnyH_take (i := 0) (v := _) (List.getElem?_toArray.trans rfl) (by kernel_rfl) (by kernel_rfl) (by kernel_rfl) (fun _ _ _ h => h) (Or.inl ⟨by rfl, ?y0zq⟩) hHeld ?r0zq
            case y0zq => intro w h; (try dsimp only at h); go_simp; (try with_reducible rfl)
            try simp only [Act.put, List.setIfInBounds_toArray, List.set_cons_zero, List.set_cons_succ]
            refine' wpAnyH_take (i := 1) (v := _) (List.getElem?_toArray.trans rfl) (by kernel_rfl) (by kernel_rfl) (by kernel_rfl) (fun _ _ _ h => h) (Or.inl ⟨by rfl, ?y1zq⟩) hHeld ?r1zq
            case y1zq => intro w h; (try dsimp only at h); go_simp; (try with_reducible rfl)
            try simp only [Act.put, List.setIfInBounds_toArray, List.set_cons_zero, List.set_cons_succ]
            refine' wpAnyH_take (i := 2) (v := _) (List.getElem?_toArray.trans rfl) (by kernel_rfl) (by kernel_rfl) (by kernel_rfl) (fun _ _ _ h => h) (Or.inl ⟨by rfl, ?y2zq⟩) hHeld ?r2zq
            case y2zq => intro w h; (try dsimp only at h); go_simp; (try with_reducible rfl)
            try simp only [Act.put, List.setIfInBounds_toArray, List.set_cons_zero, List.set_cons_succ]
            refine' wpAnyH_take (i := 3) (v := _) (List.getElem?_toArray.trans rfl) (by kernel_rfl) (by kernel_rfl) (by kernel_rfl) (fun _ _ _ h => h) (Or.inl ⟨by rfl, ?y3zq⟩) hHeld ?r3zq
            case y3zq => intro w h; (try dsimp only at h); go_simp; (try with_reducible rfl)
            try simp only [Act.put, List.setIfInBounds_toArray, List.set_cons_zero, List.set_cons_succ]
            refine' wpAnyH_take (i := 4) (v := _) (List.getElem?_toArray.trans rfl) (by kernel_rfl) (by kernel_rfl) (by kernel_rfl) (fun _ _ _ h => h) (Or.inl ⟨by rfl, ?y4zq⟩) hHeld ?r4zq
            case y4zq => intro w h; (try dsimp only at h); go_simp; (try with_reducible rfl)
            try simp only [Act.put, List.setIfInBounds_toArray, List.set_cons_zero, List.set_cons_succ]
            refine' wpAnyH_take (i := 7) (v := _) (List.getElem?_toArray.trans rfl) (by kernel_rfl) (by kernel_rfl) (by kernel_rfl) (fun _ _ _ h => h) (Or.inl ⟨by rfl, ?y7zq⟩) hHeld ?r7zq
            case y7zq => intro w h; (try dsimp only at h); go_simp; (try with_reducible rfl)
            try simp only [Act.put, List.setIfInBounds_toArray, List.set_cons_zero, List.set_cons_succ]
            refine' wpAnyH_take (i := 8) (v := _) (List.getElem?_toArray.trans rfl) (by kernel_rfl) (by kernel_rfl) (by kernel_rfl) (fun _ _ _ h => h) (Or.inl ⟨by rfl, ?y8zq⟩) hHeld ?r8zq
            case y8zq => intro w h; (try dsimp only at h); go_simp; rw [if_pos (show (1 : Int) ≤ (n0 : Int) by omega), HE0.out]; (try with_reducible rfl)
            try simp only [Act.put, List.setIfInBounds_toArray, List.set_cons_zero, List.set_cons_succ]
            refine' wpAnyH_take (i := 9) (v := _) (List.getElem?_toArray.trans rfl) (by kernel_rfl) (by kernel_rfl) (by kernel_rfl) (fun _ _ _ h => h) (Or.inl ⟨by rfl, ?y9zq⟩) hHeld ?r9zq
            case y9zq => intro w h; (try dsimp only at h); go_simp; (try with_reducible rfl)
            try simp only [Act.put, List.setIfInBounds_toArray, List.set_cons_zero, List.set_cons_succ]
            refine' wpAnyH_take (i := 10) (v := _) (List.getElem?_toArray.trans rfl) (by kernel_rfl) (by kernel_rfl) (by kernel_rfl) (fun _ _ _ h => h) (Or.inl ⟨by rfl, ?y10zq⟩) hHeld ?r10zq
            case y10zq => intro w h; (try dsimp only at h); go_simp; rw [if_pos (show (1 : Int) ≤ (n1 : Int) by omega), HE1.out]; (try with_reducible rfl)
            try simp only [Act.put, List.setIfInBounds_toArray, List.set_cons_zero, List.set_cons_succ]
            refine wpAnyH_ready (rs := [5]) (by kernel_rfl) (by simp) ?_
            refine AllReadyH.cons (List.getElem?_toArray.trans rfl) (fun K hK => ?_) AllReadyH.nil
            go_simp
            refine hK.out _ _ (HKc.out _ (HBc.out.drew.alloc HBc.out.size _)) (fun hHeld => ?_)
            clear hK K
            try simp only [Act.put, List.setIfInBounds_toArray, List.set_cons_zero, List.set_cons_succ]
            obtain ⟨v1, w1, hrun, hO1, hg1, hat⟩ := append_run (P := Tryz.prog) (W := w6.drew) strOk 90 90 9 (.string ⟨#[]⟩) 16 w.heap.size (fun _ => False) Tryz.underlying90 infoStrB rfl (by decide) (by decide) (.slice An nn dn) nl x.name #[.string x.name] (by simp [Value.oneCell']) HOc.out (by rfl) HBc.out.size (by have := HLEN.out; have := HL.out; have := HL2.out; omega)
            have HO1 := Lib.hid hO1
            have HB1 := Lib.hid (HBc.out.drew.grown hg1 HBc.out.size (fun k h => (HOc.out.own k h).1))
            clear hO1 hg1 hat
            have hrun : (Builtin.append_ #[90, 90] 90 #[.slice An nn dn, .slice (some ⟨w6.heap.size, 0, none⟩) 1 1]).run Tryz.prog (w6.alloc (.cells #[.string x.name] 9)).drew = .ok v1 w1 := hrun
            refine wpAnyH_ready (rs := [6]) (by kernel_rfl) (by simp) ?_
            refine AllReadyH.cons (List.getElem?_toArray.trans rfl) (fun K hK => ?_) AllReadyH.nil
            refine wp_append_ _ _ 90 rfl (.slice An nn dn) (.slice (some ⟨w6.heap.size, 0, none⟩) 1 1) v1 rfl rfl hrun ?_
            refine hK.out _ _ (HKc.out _ HB1.out) (fun hHeld => ?_)
            clear hK K hrun
            try simp only [Act.put, List.setIfInBounds_toArray, List.set_cons_zero, List.set_cons_succ]
            refine' wpAnyH_take (i := 11) (v := _) (List.getElem?_toArray.trans rfl) (by kernel_rfl) (by kernel_rfl) (by kernel_rfl) (fun _ _ _ h => h) (Or.inl ⟨by rfl, ?y11zq⟩) hHeld ?r11zq
            case y11zq => intro w h; (try dsimp only at h); go_simp; (try with_reducible rfl)
            try simp only [Act.put, List.setIfInBounds_toArray, List.set_cons_zero, List.set_cons_succ]
            refine' wpAnyH_take (i := 12) (v := _) (List.getElem?_toArray.trans rfl) (by kernel_rfl) (by kernel_rfl) (by kernel_rfl) (fun _ _ _ h => h) (Or.inl ⟨by rfl, ?y12zq⟩) hHeld ?r12zq
            case y12zq => intro w h; (try dsimp only at h); go_simp; (try with_reducible rfl)
            try simp only [Act.put, List.setIfInBounds_toArray, List.set_cons_zero, List.set_cons_succ]
            refine' wpAnyH_take (i := 13) (v := _) (List.getElem?_toArray.trans rfl) (by kernel_rfl) (by kernel_rfl) (by kernel_rfl) (fun _ _ _ h => h) (Or.inl ⟨by rfl, ?y13zq⟩) hHeld ?r13zq
            case y13zq => intro w h; (try dsimp only at h); go_simp; (try with_reducible rfl)
            try simp only [Act.put, List.setIfInBounds_toArray, List.set_cons_zero, List.set_cons_succ]
            refine wpAnyH_done (by kernel_rfl) ?_ _
            go_wp2_with fail
            go_roundw
            case rel => exact ⟨HB1.out, xa, ya, nl ++ [x.name], HT0.out, HT1.out, HO1.out, by rw [← HN.out, bothN_eq H1.out H2.out]; simp, by have := HLEN.out; simp at this ⊢; omega⟩
            case measure => simp [lenV]; omega
end Go.Proofs.YtdceflgemhcgcaaGreatDoor
