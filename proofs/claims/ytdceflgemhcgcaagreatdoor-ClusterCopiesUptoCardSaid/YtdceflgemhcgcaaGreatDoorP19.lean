/-
berthref04.with.
berthref04.Make.
-/
import Derived.Test.YtdceflgemhcgcaaGreatDoorP13
import Derived.Test.YtdceflgemhcgcaaGreatDoorP16
import Derived.Deep.RegionHeld3
set_option linter.unusedVariables false
set_option linter.unusedSimpArgs false
namespace Go.Proofs.YtdceflgemhcgcaaGreatDoor
open Go.RowKit Go.BigFrame

/-- The list with t in its place. -/
def withT (xs : List Tnt) (t : Tnt) : List Tnt := xs.takeWhile (aboveT t) ++ t :: xs.dropWhile (aboveT t)
theorem takeWhile_at {α : Type} {p : α → Bool} : ∀ {l : List α} {k : Nat} (_ : k ≤ l.length) (_ : ∀ j (hj : j < l.length), j < k → p (l[j]'hj) = true) (_ : ∀ hk : k < l.length, p (l[k]'hk) = false), l.takeWhile p = l.take k ∧ l.dropWhile p = l.drop k
  | [], _, _, _, _ => by simp
  | a :: r, 0, _, _, hn => by
    have := hn (by simp)
    simp only [List.getElem_cons_zero] at this
    simp [List.takeWhile, List.dropWhile, this]
  | a :: r, k + 1, hk, h, hn => by
    have h0 : p a = true := h 0 (by simp) (by omega)
    have := takeWhile_at (l := r) (k := k) (by simpa using hk) (fun j hj hjk => h (j + 1) (by simp; omega) (by omega)) (fun hk2 => hn (by simp; omega))
    simp [List.takeWhile, List.dropWhile, h0, this.1, this.2]
set_option maxRecDepth 100000 in
set_option maxHeartbeats 8000000 in
theorem rwith_k (R : Ending → World → Prop) (w : World) (ok : Nat → Prop) (v : Value) (xs : List Tnt) (t : Tnt) (hok : ∀ k, ok k → k < w.heap.size) (hx : SlK tntK 3 w ok v xs) (hl : xs.length ≤ 1048576)
    (hR : ∀ v' w', Below w.heap.size w w' → SlK tntK 3 w' (fun k => w.heap.size ≤ k) v' (withT xs t) → R (.returned v') w') :
    Calls Tryz.prog 142 #[v, .agg #[.string t.key, .string t.val, .string t.eff]] w R := by
  obtain ⟨A, c, rfl, hlc, _⟩ := hx.form
  have HR := Lib.hid hR
  obtain ⟨w1, hw1⟩ : ∃ w1, w1 = w.alloc (.cells #[.string t.key, .string t.val, .string t.eff] 34) := ⟨_, rfl⟩
  have HB1 := Lib.hid (show Below w.heap.size w w1 by rw [hw1]; exact Below.alloc (Below.refl _ _) (Nat.le_refl _) _)
  have OB := Lib.hid (show w1.heap[w.heap.size]? = some (.cells #[.string t.key, .string t.val, .string t.eff] 34) by rw [hw1]; exact heap_alloc_new _ _)
  have hws : w.heap.size < w1.heap.size := by rw [hw1]; simp
  have HX := Lib.hid hx
  have HOK := Lib.hid hok
  clear hR hx hok
  go_enter Tryz.func142, Tryz.ntmps142
  go_upto_region 2 with fail
  rw [← hw1]
  clear hw1
  go_wp2_with fail
  go_loopw [5, 6] (fun out i wr => ∃ k : Nat, k ≤ xs.length ∧ i = .int .i64 k ∧ Below w1.heap.size w1 wr ∧ OwnK tntK 3 34 wr w1.heap.size (fun _ => False) out (xs.take k) ∧ ∀ j (hj : j < xs.length), j < k → aboveT t (xs[j]'hj) = true) (fun _ i _ => xs.length - (intOf i).toNat)
  case atStart => exact ⟨0, Nat.zero_le _, rfl, Below.refl _ _, by rw [List.take_zero]; exact OwnK.nil (fun _ h => h.elim), fun _ _ h => absurd h (Nat.not_lt_zero _)⟩
  case round =>
    obtain ⟨k, hk, rfl, hB, hO, hz⟩ := hrel
    have HB := Lib.hid hB
    have HO := Lib.hid hO
    have HZ := Lib.hid hz
    clear hB hO hz
    by_cases hlt : k < xs.length
    · obtain ⟨b, off, c2, he, _, _, hbk, hbl, hce⟩ := (HX.out.below tntOk (HB1.out.trans (HB.out.mono HB1.out.size)) HOK.out).addr (by omega)
      simp only [Value.slice.injEq] at he
      obtain ⟨he, -, hec⟩ := he
      cases he
      cases hec
      obtain ⟨y0, y1, y2⟩ := rtaints_k_cells hce k hlt
      obtain ⟨s, hs⟩ : ∃ s, xs[k]'hlt = s := ⟨_, rfl⟩
      rw [hs] at y0 y1 y2
      have HSX := Lib.hid hs
      clear hce hs
      have z_ : wr.heap[w.heap.size]? = some (.cells #[.string t.key, .string t.val, .string t.eff] 34) := (HB.out.block _ hws).trans OB.out
      have z0 : wr.cell? ⟨w.heap.size, 0, none⟩ = some (.string t.key) := cell_at z_ rfl
      have z1 : wr.cell? ⟨w.heap.size, 1, none⟩ = some (.string t.val) := cell_at z_ rfl
      have z2 : wr.cell? ⟨w.heap.size, 2, none⟩ = some (.string t.eff) := cell_at z_ rfl
      clear z_
      have HK := Lib.hid (show ∀ W, Below wr.heap.size wr W → Below wr.heap.size wr W ∧ W.cell? ⟨w.heap.size, 0, none⟩ = some (.string t.key) ∧ W.cell? ⟨w.heap.size, 1, none⟩ = some (.string t.val) ∧ W.cell? ⟨w.heap.size, 2, none⟩ = some (.string t.eff) ∧ W.cell? ⟨b, off + k * 3, none⟩ = some (.string s.key) ∧ W.cell? ⟨b, off + k * 3 + 1, none⟩ = some (.string s.val) ∧ W.cell? ⟨b, off + k * 3 + 2, none⟩ = some (.string s.eff) from
        fun W hW => ⟨hW, (Mod.of_below hW).cell' z0 (fun h => h), (Mod.of_below hW).cell' z1 (fun h => h), (Mod.of_below hW).cell' z2 (fun h => h), (Mod.of_below hW).cell' y0 (fun h => h), (Mod.of_below hW).cell' y1 (fun h => h), (Mod.of_below hW).cell' y2 (fun h => h)⟩)
      have YA := Lib.hid (Below.refl wr.heap.size wr).drew
      clear z0 z1 z2 y0 y1 y2
      obtain ⟨q, ha⟩ : ∃ q, aboveT t s = q := ⟨_, rfl⟩
      have HA := Lib.hid ha
      clear ha
      go_upto_region 3 with fail
      go_cut [18] (fun v W => v = .bool q ∧ Below wr.heap.size wr W)
      case first =>
        refine wp_region_held_drew (S := fun W => Below wr.heap.size wr W ∧ W.cell? ⟨w.heap.size, 0, none⟩ = some (.string t.key) ∧ W.cell? ⟨w.heap.size, 1, none⟩ = some (.string t.val) ∧ W.cell? ⟨w.heap.size, 2, none⟩ = some (.string t.eff) ∧ W.cell? ⟨b, off + k * 3, none⟩ = some (.string s.key) ∧ W.cell? ⟨b, off + k * 3 + 1, none⟩ = some (.string s.val) ∧ W.cell? ⟨b, off + k * 3 + 2, none⟩ = some (.string s.eff)) (by kernel_rfl) (HK.out _ YA.out) (fun hHeld => ?_)
        refine' wpAnyH_take (i := 0) (v := _) (List.getElem?_toArray.trans rfl) (by kernel_rfl) (by kernel_rfl) (by kernel_rfl) (fun _ _ _ h => h) (Or.inl ⟨by rfl, ?y0a⟩) hHeld ?r0a
        case y0a => intro w h; (try dsimp only at h); go_simp; (try with_reducible rfl)
        try simp only [Act.put, List.setIfInBounds_toArray, List.set_cons_zero, List.set_cons_succ]
        refine' wpAnyH_take (i := 1) (v := _) (List.getElem?_toArray.trans rfl) (by kernel_rfl) (by kernel_rfl) (by kernel_rfl) (fun _ _ _ h => h) (Or.inl ⟨by rfl, ?y1a⟩) hHeld ?r1a
        case y1a => intro w h; (try dsimp only at h); go_simp; (try with_reducible rfl)
        try simp only [Act.put, List.setIfInBounds_toArray, List.set_cons_zero, List.set_cons_succ]
        refine' wpAnyH_take (i := 2) (v := _) (List.getElem?_toArray.trans rfl) (by kernel_rfl) (by kernel_rfl) (by kernel_rfl) (fun _ _ _ h => h) (Or.inl ⟨by rfl, ?y2a⟩) hHeld ?r2a
        case y2a => intro w h; (try dsimp only at h); go_simp; (try with_reducible rfl)
        try simp only [Act.put, List.setIfInBounds_toArray, List.set_cons_zero, List.set_cons_succ]
        refine' wpAnyH_take (i := 3) (v := _) (List.getElem?_toArray.trans rfl) (by kernel_rfl) (by kernel_rfl) (by kernel_rfl) (fun _ _ _ h => h) (Or.inl ⟨by rfl, ?y3a⟩) hHeld ?r3a
        case y3a => intro w h; (try dsimp only at h); go_simp; (try with_reducible rfl)
        try simp only [Act.put, List.setIfInBounds_toArray, List.set_cons_zero, List.set_cons_succ]
        refine' wpAnyH_take (i := 4) (v := _) (List.getElem?_toArray.trans rfl) (by kernel_rfl) (by kernel_rfl) (by kernel_rfl) (fun _ _ _ h => h) (Or.inl ⟨by rfl, ?y4a⟩) hHeld ?r4a
        case y4a => intro w h; (try dsimp only at h); go_simp; (try with_reducible rfl)
        try simp only [Act.put, List.setIfInBounds_toArray, List.set_cons_zero, List.set_cons_succ]
        refine' wpAnyH_take (i := 5) (v := _) (List.getElem?_toArray.trans rfl) (by kernel_rfl) (by kernel_rfl) (by kernel_rfl) (fun _ _ _ h => h) (Or.inl ⟨by rfl, ?y5a⟩) hHeld ?r5a
        case y5a => intro w h; (try dsimp only at h); go_simp; (try with_reducible rfl)
        try simp only [Act.put, List.setIfInBounds_toArray, List.set_cons_zero, List.set_cons_succ]
        refine' wpAnyH_take (i := 6) (v := _) (List.getElem?_toArray.trans rfl) (by kernel_rfl) (by kernel_rfl) (by kernel_rfl) (fun _ _ _ h => h) (Or.inl ⟨by rfl, ?y6a⟩) hHeld ?r6a
        case y6a => intro w h; (try dsimp only at h); go_simp; (try with_reducible rfl)
        try simp only [Act.put, List.setIfInBounds_toArray, List.set_cons_zero, List.set_cons_succ]
        refine' wpAnyH_take (i := 7) (v := _) (List.getElem?_toArray.trans rfl) (by kernel_rfl) (by kernel_rfl) (by kernel_rfl) (fun _ _ _ h => h) (Or.inl ⟨by rfl, ?y7a⟩) hHeld ?r7a
        case y7a => intro w h; (try dsimp only at h); go_simp; (try with_reducible rfl)
        try simp only [Act.put, List.setIfInBounds_toArray, List.set_cons_zero, List.set_cons_succ]
        refine' wpAnyH_take (i := 8) (v := _) (List.getElem?_toArray.trans rfl) (by kernel_rfl) (by kernel_rfl) (by kernel_rfl) (fun _ _ _ h => h) (Or.inl ⟨by rfl, ?y8a⟩) hHeld ?r8a
        case y8a => intro w h; (try dsimp only at h); go_simp; (try with_reducible rfl)
        try simp only [Act.put, List.setIfInBounds_toArray, List.set_cons_zero, List.set_cons_succ]
        refine' wpAnyH_take (i := 9) (v := _) (List.getElem?_toArray.trans rfl) (by kernel_rfl) (by kernel_rfl) (by kernel_rfl) (fun _ _ _ h => h) (Or.inl ⟨by rfl, ?y9a⟩) hHeld ?r9a
        case y9a => intro w h; (try dsimp only at h); go_simp; (try with_reducible rfl)
        try simp only [Act.put, List.setIfInBounds_toArray, List.set_cons_zero, List.set_cons_succ]
        refine wpAnyH_ready (rs := [10]) (by kernel_rfl) (by simp) ?_
        refine AllReadyH.cons (List.getElem?_toArray.trans rfl) (fun K hK => ?_) AllReadyH.nil
        go_simp
        go_at_call 217
        refine tabove_k _ _ t s ?_
        intro w3 g3
        rw [HA.out]
        have yb : Below wr.heap.size wr w3 := ⟨g3.os, g3.tape, g3.output, g3.size, g3.block⟩
        clear g3
        go_wp2_with fail
        refine hK.out _ _ (HK.out _ yb) (fun hHeld => ?_)
        clear hK K
        try simp only [Act.put, List.setIfInBounds_toArray, List.set_cons_zero, List.set_cons_succ]
        refine' wpAnyH_take (i := 11) (v := _) (List.getElem?_toArray.trans rfl) (by kernel_rfl) (by kernel_rfl) (by kernel_rfl) (fun _ _ _ h => h) (Or.inl ⟨by rfl, ?y11a⟩) hHeld ?r11a
        case y11a => intro w h; (try dsimp only at h); go_simp; (try with_reducible rfl)
        try simp only [Act.put, List.setIfInBounds_toArray, List.set_cons_zero, List.set_cons_succ]
        refine wpAnyH_done (by kernel_rfl) ?_ _
        go_wp2_with fail
        go_meet
        exact ⟨rfl, yb⟩
      obtain ⟨rfl, yb⟩ := hcut
      obtain ⟨_, _, _, _, y0, y1, y2⟩ := HK.out _ yb
      have HB3 := Lib.hid (HB.out.trans (yb.mono HB.out.size))
      have HO3 := Lib.hid (HO.out.move tntOk (fun j hj _ => yb.block j hj) yb.size)
      clear yb
      cases q with
      | true =>
        go_wp2_with (at_builtin; refine append_k tntOk rfl _ _ 23 34 (.agg #[.string ⟨#[]⟩, .string ⟨#[]⟩, .string ⟨#[]⟩]) 48 w1.heap.size (fun _ => False) rfl Tryz.underlying23 infoTnt rfl (by decide) (by decide) u5 (xs.take k) s #[.string s.key, .string s.val, .string s.eff] rfl rfl ?c1m HO3.out rfl HB3.out.size ?c3m ?_)
        case c1m => first | exact ⟨rfl, rfl, rfl⟩ | (intro u hu; simp at hu; rcases hu with rfl | rfl | rfl <;> rfl)
        case c3m => simp only [List.length_take]; omega
        intro v7 w7 hO7 hg7 _
        have HB7 := Lib.hid (HB3.out.grown hg7 HB3.out.size (fun j h => (HO3.out.own j h).1))
        have HO7 := Lib.hid hO7
        clear hO7 hg7
        go_wp2_with fail
        go_roundw
        case rel => exact ⟨k + 1, by omega, by go_num, HB7.out, by rw [List.take_succ_eq_append_getElem hlt, HSX.out]; exact HO7.out, fun j hj hjk => by
          by_cases hjk2 : j < k
          · exact HZ.out j hj hjk2
          · obtain rfl : j = k := by omega
            rw [HSX.out]; exact HA.out⟩
        case measure => simp [intOf]; omega
      | false =>
        have HTW := Lib.hid (takeWhile_at hk HZ.out (fun h => by rw [HSX.out]; exact HA.out))
        clear y0 y1 y2
        have HBr := Lib.hid HB3.out
        have HOr := Lib.hid HO3.out
        have z_ : wc.heap[w.heap.size]? = some (.cells #[.string t.key, .string t.val, .string t.eff] 34) := (HBr.out.block _ hws).trans OB.out
        have z0 : wc.cell? ⟨w.heap.size, 0, none⟩ = some (.string t.key) := cell_at z_ rfl
        have z1 : wc.cell? ⟨w.heap.size, 1, none⟩ = some (.string t.val) := cell_at z_ rfl
        have z2 : wc.cell? ⟨w.heap.size, 2, none⟩ = some (.string t.eff) := cell_at z_ rfl
        clear z_
        go_wp2_with (at_builtin; refine append_k tntOk rfl _ _ 23 34 (.agg #[.string ⟨#[]⟩, .string ⟨#[]⟩, .string ⟨#[]⟩]) 48 w1.heap.size (fun _ => False) rfl Tryz.underlying23 infoTnt rfl (by decide) (by decide) u5 (xs.take k) t #[.string t.key, .string t.val, .string t.eff] rfl rfl ?c1x HOr.out rfl HBr.out.size ?c3x ?_)
        case c1x => first | exact ⟨rfl, rfl, rfl⟩ | (intro u hu; simp at hu; rcases hu with rfl | rfl | rfl <;> rfl)
        case c3x => simp only [List.length_take]; omega
        intro v5 w5 hO5 hg5 _
        have HB5 := Lib.hid (HBr.out.grown hg5 HBr.out.size (fun j h => (HOr.out.own j h).1))
        have HO5 := Lib.hid hO5
        clear hO5 hg5 z0 z1 z2
        go_wp2_with fail
        go_loopw [5, 6] (fun out i wr => ∃ m : Nat, k ≤ m ∧ m ≤ xs.length ∧ i = .int .i64 m ∧ Below w1.heap.size w1 wr ∧ OwnK tntK 3 34 wr w1.heap.size (fun _ => False) out (xs.take k ++ [t] ++ (xs.drop k).take (m - k))) (fun _ i _ => xs.length - (intOf i).toNat)
        case atStart => exact ⟨k, Nat.le_refl _, hk, rfl, HB5.out, by rw [Nat.sub_self, List.take_zero, List.append_nil]; first | exact HO5.out | simpa using HO5.out⟩
        case round =>
          obtain ⟨m, hkm, hm, rfl, hB6, hO6⟩ := hrel
          have HB6 := Lib.hid hB6
          have HO6 := Lib.hid hO6
          clear hB6 hO6
          by_cases hml : m < xs.length
          · obtain ⟨b, off, c2, he, _, _, hbk, hbl, hce⟩ := (HX.out.below tntOk (HB1.out.trans (HB6.out.mono HB1.out.size)) HOK.out).addr (by omega)
            simp only [Value.slice.injEq] at he
            obtain ⟨he, -, hec⟩ := he
            cases he
            cases hec
            obtain ⟨y0, y1, y2⟩ := rtaints_k_cells hce m hml
            obtain ⟨s, hs⟩ : ∃ s, xs[m]'hml = s := ⟨_, rfl⟩
            rw [hs] at y0 y1 y2
            have HSX := Lib.hid hs
            clear hce hs
            go_wp2_with (at_builtin; refine append_k tntOk rfl _ _ 23 34 (.agg #[.string ⟨#[]⟩, .string ⟨#[]⟩, .string ⟨#[]⟩]) 48 w1.heap.size (fun _ => False) rfl Tryz.underlying23 infoTnt rfl (by decide) (by decide) u5 (xs.take k ++ [t] ++ (xs.drop k).take (m - k)) s #[.string s.key, .string s.val, .string s.eff] rfl rfl ?c1xq HO6.out rfl HB6.out.size ?c3xq ?_)
            case c1xq => first | exact ⟨rfl, rfl, rfl⟩ | (intro u hu; simp at hu; rcases hu with rfl | rfl | rfl <;> rfl)
            case c3xq => simp only [List.length_append, List.length_take, List.length_drop, List.length_cons, List.length_nil]; omega
            intro v7 w7 hO7 hg7 _
            have HB7 := Lib.hid (HB6.out.grown hg7 HB6.out.size (fun j h => (HO6.out.own j h).1))
            have HO7 := Lib.hid hO7
            clear hO7 hg7
            go_wp2_with fail
            go_roundw
            case rel => exact ⟨m + 1, by omega, by omega, by go_num, HB7.out, by
              have e : (xs.drop k).take (m + 1 - k) = (xs.drop k).take (m - k) ++ [s] := by
                rw [show m + 1 - k = (m - k) + 1 by omega, List.take_succ_eq_append_getElem (by rw [List.length_drop]; omega), List.getElem_drop]
                congr 2
                rw [← HSX.out]
                congr 1
                omega
              have hq := HO7.out
              rw [e]
              simpa only [List.append_assoc, List.cons_append, List.nil_append] using hq⟩
            case measure => simp [intOf]; omega
          · have hsl := HO6.out.slk tntOk
            obtain rfl : m = xs.length := by omega
            have e : withT xs t = xs.take k ++ [t] ++ (xs.drop k).take (xs.length - k) := by
              have h1 := HTW.out
              unfold withT
              rw [h1.1, h1.2, List.take_of_length_le (l := xs.drop k) (by rw [List.length_drop]; omega)]
              simp only [List.append_assoc, List.cons_append, List.nil_append]
            have hv := HR.out _ _ (HB1.out.trans (HB6.out.mono HB1.out.size)) (by rw [e]; exact SlK.mono tntOk hsl (fun j hj => hj.elim (fun f => f.elim) (fun h => Nat.le_trans HB1.out.size (HO6.out.own j h).1)))
            clear hsl e
            go_wp2_with fail
            exact hv
    · obtain rfl : k = xs.length := by omega
      have HTW := Lib.hid (takeWhile_at hk HZ.out (fun h => absurd h (Nat.lt_irrefl _)))
      have YA := Lib.hid (Below.refl wr.heap.size wr).drew
      go_upto_region 3 with fail
      go_cut [18] (fun v W => v = .bool false ∧ Below wr.heap.size wr W)
      case first =>
        refine wp_region_held_drew (S := fun W => Below wr.heap.size wr W) (by kernel_rfl) YA.out (fun hHeld => ?_)
        refine' wpAnyH_take (i := 0) (v := _) (List.getElem?_toArray.trans rfl) (by kernel_rfl) (by kernel_rfl) (by kernel_rfl) (fun _ _ _ h => h) (Or.inl ⟨by rfl, ?y0z⟩) hHeld ?r0z
        case y0z => intro w h; (try dsimp only at h); go_simp; (try with_reducible rfl)
        try simp only [Act.put, List.setIfInBounds_toArray, List.set_cons_zero, List.set_cons_succ]
        refine' wpAnyH_take (i := 1) (v := _) (List.getElem?_toArray.trans rfl) (by kernel_rfl) (by kernel_rfl) (by kernel_rfl) (fun _ _ _ h => h) (Or.inl ⟨by rfl, ?y1z⟩) hHeld ?r1z
        case y1z => intro w h; (try dsimp only at h); go_simp; (try with_reducible rfl)
        try simp only [Act.put, List.setIfInBounds_toArray, List.set_cons_zero, List.set_cons_succ]
        refine' wpAnyH_take (i := 2) (v := _) (List.getElem?_toArray.trans rfl) (by kernel_rfl) (by kernel_rfl) (by kernel_rfl) (fun _ _ _ h => h) (Or.inl ⟨by rfl, ?y2z⟩) hHeld ?r2z
        case y2z => intro w h; (try dsimp only at h); go_simp; (try with_reducible rfl)
        try simp only [Act.put, List.setIfInBounds_toArray, List.set_cons_zero, List.set_cons_succ]
        refine' wpAnyH_take (i := 3) (v := _) (List.getElem?_toArray.trans rfl) (by kernel_rfl) (by kernel_rfl) (by kernel_rfl) (fun _ _ _ h => h) (Or.inl ⟨by rfl, ?y3z⟩) hHeld ?r3z
        case y3z => intro w h; (try dsimp only at h); go_simp; (try with_reducible rfl)
        try simp only [Act.put, List.setIfInBounds_toArray, List.set_cons_zero, List.set_cons_succ]
        refine' wpAnyH_take (i := 4) (v := _) (List.getElem?_toArray.trans rfl) (by kernel_rfl) (by kernel_rfl) (by kernel_rfl) (fun _ _ _ h => h) (Or.inl ⟨by rfl, ?y4z⟩) hHeld ?r4z
        case y4z => intro w h; (try dsimp only at h); go_simp; (try with_reducible rfl)
        try simp only [Act.put, List.setIfInBounds_toArray, List.set_cons_zero, List.set_cons_succ]
        refine' wpAnyH_take (i := 5) (v := undef) (List.getElem?_toArray.trans rfl) (by kernel_rfl) (by kernel_rfl) (by kernel_rfl) (fun _ _ _ h => h) (Or.inr ⟨by rfl, rfl⟩) hHeld ?_
        try simp only [Act.put, List.setIfInBounds_toArray, List.set_cons_zero, List.set_cons_succ]
        refine' wpAnyH_take (i := 6) (v := undef) (List.getElem?_toArray.trans rfl) (by kernel_rfl) (by kernel_rfl) (by kernel_rfl) (fun _ _ _ h => h) (Or.inr ⟨by rfl, rfl⟩) hHeld ?_
        try simp only [Act.put, List.setIfInBounds_toArray, List.set_cons_zero, List.set_cons_succ]
        refine' wpAnyH_take (i := 7) (v := undef) (List.getElem?_toArray.trans rfl) (by kernel_rfl) (by kernel_rfl) (by kernel_rfl) (fun _ _ _ h => h) (Or.inr ⟨by rfl, rfl⟩) hHeld ?_
        try simp only [Act.put, List.setIfInBounds_toArray, List.set_cons_zero, List.set_cons_succ]
        refine' wpAnyH_take (i := 8) (v := undef) (List.getElem?_toArray.trans rfl) (by kernel_rfl) (by kernel_rfl) (by kernel_rfl) (fun _ _ _ h => h) (Or.inr ⟨by rfl, rfl⟩) hHeld ?_
        try simp only [Act.put, List.setIfInBounds_toArray, List.set_cons_zero, List.set_cons_succ]
        refine' wpAnyH_take (i := 9) (v := undef) (List.getElem?_toArray.trans rfl) (by kernel_rfl) (by kernel_rfl) (by kernel_rfl) (fun _ _ _ h => h) (Or.inr ⟨by rfl, rfl⟩) hHeld ?_
        try simp only [Act.put, List.setIfInBounds_toArray, List.set_cons_zero, List.set_cons_succ]
        refine' wpAnyH_take (i := 10) (v := undef) (List.getElem?_toArray.trans rfl) (by kernel_rfl) (by kernel_rfl) (by kernel_rfl) (fun _ _ _ h => h) (Or.inr ⟨by rfl, rfl⟩) hHeld ?_
        try simp only [Act.put, List.setIfInBounds_toArray, List.set_cons_zero, List.set_cons_succ]
        refine' wpAnyH_take (i := 11) (v := _) (List.getElem?_toArray.trans rfl) (by kernel_rfl) (by kernel_rfl) (by kernel_rfl) (fun _ _ _ h => h) (Or.inl ⟨by rfl, ?y11z⟩) hHeld ?r11z
        case y11z => intro w h; (try dsimp only at h); go_simp; (try with_reducible rfl)
        try simp only [Act.put, List.setIfInBounds_toArray, List.set_cons_zero, List.set_cons_succ]
        refine wpAnyH_done (by kernel_rfl) ?_ _
        go_wp2_with fail
        go_meet
        exact ⟨rfl, hHeld⟩
      obtain ⟨rfl, yb⟩ := hcut
      have HB3 := Lib.hid (HB.out.trans (yb.mono HB.out.size))
      have HO3 := Lib.hid (HO.out.move tntOk (fun j hj _ => yb.block j hj) yb.size)
      clear yb
      have HBr := Lib.hid HB3.out
      have HOr := Lib.hid HO3.out
      have z_ : wc.heap[w.heap.size]? = some (.cells #[.string t.key, .string t.val, .string t.eff] 34) := (HBr.out.block _ hws).trans OB.out
      have z0 : wc.cell? ⟨w.heap.size, 0, none⟩ = some (.string t.key) := cell_at z_ rfl
      have z1 : wc.cell? ⟨w.heap.size, 1, none⟩ = some (.string t.val) := cell_at z_ rfl
      have z2 : wc.cell? ⟨w.heap.size, 2, none⟩ = some (.string t.eff) := cell_at z_ rfl
      clear z_
      go_wp2_with (at_builtin; refine append_k tntOk rfl _ _ 23 34 (.agg #[.string ⟨#[]⟩, .string ⟨#[]⟩, .string ⟨#[]⟩]) 48 w1.heap.size (fun _ => False) rfl Tryz.underlying23 infoTnt rfl (by decide) (by decide) u5 (xs.take xs.length) t #[.string t.key, .string t.val, .string t.eff] rfl rfl ?c1z HOr.out rfl HBr.out.size ?c3z ?_)
      case c1z => first | exact ⟨rfl, rfl, rfl⟩ | (intro u hu; simp at hu; rcases hu with rfl | rfl | rfl <;> rfl)
      case c3z => simp only [List.length_take]; omega
      intro v5 w5 hO5 hg5 _
      have HB5 := Lib.hid (HBr.out.grown hg5 HBr.out.size (fun j h => (HOr.out.own j h).1))
      have HO5 := Lib.hid hO5
      clear hO5 hg5 z0 z1 z2
      go_wp2_with fail
      go_loopw [5, 6] (fun out i wr => ∃ m : Nat, xs.length ≤ m ∧ m ≤ xs.length ∧ i = .int .i64 m ∧ Below w1.heap.size w1 wr ∧ OwnK tntK 3 34 wr w1.heap.size (fun _ => False) out (xs.take xs.length ++ [t] ++ (xs.drop xs.length).take (m - xs.length))) (fun _ i _ => xs.length - (intOf i).toNat)
      case atStart => exact ⟨xs.length, Nat.le_refl _, Nat.le_refl _, rfl, HB5.out, by rw [Nat.sub_self, List.take_zero, List.append_nil]; first | exact HO5.out | simpa using HO5.out⟩
      case round =>
        obtain ⟨m, hkm, hm, rfl, hB6, hO6⟩ := hrel
        have HB6 := Lib.hid hB6
        have HO6 := Lib.hid hO6
        clear hB6 hO6
        by_cases hml : m < xs.length
        · exact absurd hml (by omega)
        · have hsl := HO6.out.slk tntOk
          obtain rfl : m = xs.length := by omega
          have e : withT xs t = xs.take xs.length ++ [t] ++ (xs.drop xs.length).take (xs.length - xs.length) := by
            have h1 := HTW.out
            unfold withT
            rw [h1.1, h1.2, List.take_of_length_le (l := xs.drop xs.length) (by rw [List.length_drop]; omega)]
            simp only [List.append_assoc, List.cons_append, List.nil_append]
          have hv := HR.out _ _ (HB1.out.trans (HB6.out.mono HB1.out.size)) (by rw [e]; exact SlK.mono tntOk hsl (fun j hj => hj.elim (fun f => f.elim) (fun h => Nat.le_trans HB1.out.size (HO6.out.own j h).1)))
          clear hsl e
          go_wp2_with fail
          exact hv
end Go.Proofs.YtdceflgemhcgcaaGreatDoor

namespace Go.Proofs.YtdceflgemhcgcaaGreatDoor
open Go.RowKit Go.BigFrame

theorem withT_eq (xs : List Tnt) (t : Tnt) : withT xs t = insA ltT xs t := by
  unfold withT insA
  rw [show aboveT t = (fun y => ltT y t) from funext fun y => aboveT_eq t y]
set_option maxRecDepth 100000 in
set_option maxHeartbeats 8000000 in
theorem rtmake_k (R : Ending → World → Prop) (w : World) (ok : Nat → Prop) (v : Value) (xs : List Tnt) (hok : ∀ k, ok k → k < w.heap.size) (hx : SlK tntK 3 w ok v xs) (hs : ∀ s ∈ xs, s.key.size ≤ 1048576 ∧ s.val.size ≤ 1048576 ∧ s.eff.size ≤ 1048576) (hl : xs.length ≤ 1073741824)
    (hR : ∀ v' w', Below w.heap.size w w' → SlK tntK 3 w' (fun k => w.heap.size ≤ k) v' (tntMake xs).1 → R (.returned (.tuple #[v', .int .i64 (tntMake xs).2.1, .int .i64 (tntMake xs).2.2])) w') :
    Calls Tryz.prog 69 #[v] w R := by
  obtain ⟨A, c, rfl, hlc, _⟩ := hx.form
  have HR := Lib.hid hR
  have HS := Lib.hid hs
  have HX := Lib.hid hx
  have HOK := Lib.hid hok
  clear hR hs hx hok
  by_cases h16 : 16 < xs.length
  · have e1 : tntMake xs = ([], 0, 44) := by unfold tntMake; rw [if_pos h16]
    have hv := HR.out (.slice none 0 0) w (Below.refl _ _) (by rw [e1]; exact SlK.nil)
    rw [e1] at hv
    have hcast : (16 : Int) < (xs.length : Int) := by omega
    clear e1
    go_enter Tryz.func69, Tryz.ntmps69
    go_wp2_with fail
    exact hv
  · have hcast : ¬ (16 : Int) < (xs.length : Int) := by omega
    have hln : xs.length ≤ 16 := by omega
    go_enter Tryz.func69, Tryz.ntmps69
    go_wp2_with fail
    go_loopw [5] (fun i wr => ∃ k : Nat, k ≤ xs.length ∧ i = .int .i64 k ∧ Below w.heap.size w wr ∧ ∀ j, j < k → tntF xs j = 0) (fun i _ => xs.length - (intOf i).toNat)
    case atStart => exact ⟨0, Nat.zero_le _, rfl, Below.refl _ _, fun _ h => absurd h (Nat.not_lt_zero _)⟩
    case round =>
      obtain ⟨k, hk, rfl, hB, hz⟩ := hrel
      have HB := Lib.hid hB
      have HZ := Lib.hid hz
      clear hB hz
      by_cases hlt : k < xs.length
      · obtain ⟨b, off, c2, he, _, _, bk, bl, hce⟩ := (HX.out.below tntOk HB.out HOK.out).addr (by omega)
        simp only [Value.slice.injEq] at he
        obtain ⟨he, -, hec⟩ := he
        cases he
        cases hec
        obtain ⟨y0, y1, y2⟩ := rtaints_k_cells hce k hlt
        obtain ⟨s, hs⟩ : ∃ s, xs[k]'hlt = s := ⟨_, rfl⟩
        rw [hs] at y0 y1 y2
        have HEs := Lib.hid hs
        clear hce hs
        have fit := HS.out s (by rw [← HEs.out]; exact List.getElem_mem hlt)
        go_wp2_with fail
        refine rctaint_k _ _ s fit ?_
        intro w3 g3
        have B3 := Lib.hid (HB.out.trans (g3.mono HB.out.size))
        clear g3 y0 y1 y2
        by_cases he : taintErr s = 0
        · rw [he]
          have HE := Lib.hid he
          clear he
          go_wp2_with fail
          go_roundw
          case rel => exact ⟨k + 1, by omega, by go_num, B3.out, fun j hj => by
            by_cases hjk2 : j < k
            · exact HZ.out j hjk2
            · obtain rfl : j = k := by omega
              rw [tntF_at hlt, HEs.out]; exact HE.out⟩
          case measure => simp [intOf]; omega
        · have e1 := tntMake_bad (by omega) hlt HZ.out (by rw [tntF_at hlt, HEs.out]; exact he)
          have hv := HR.out (.slice none 0 0) w3 B3.out (by rw [e1]; exact SlK.nil)
          rw [e1, tntF_at hlt, HEs.out] at hv
          clear e1
          obtain ⟨er, her⟩ : ∃ er, er = taintErr s := ⟨_, rfl⟩
          rw [← her] at he hv
          rw [← her]
          clear her
          go_wp2_with fail
          exact hv
      · have HN := Lib.hid (show ∀ j, j < xs.length → tntF xs j = 0 from fun j hj => HZ.out j (by omega))
        obtain rfl : k = xs.length := by omega
        clear HZ hk hlt
        have HB9 := HB
        clear HB
        go_wp2_with fail
        go_loopw [7] (fun i wr => ∃ m : Nat, m ≤ xs.length ∧ i = .int .i64 m ∧ Below w.heap.size w wr ∧ ∀ j, j < m → dupAt sameT xs j = false) (fun i _ => xs.length - (intOf i).toNat)
        case atStart => exact ⟨0, Nat.zero_le _, rfl, HB9.out, fun _ h => absurd h (Nat.not_lt_zero _)⟩
        case round =>
          obtain ⟨m, hm, rfl, hB, hz⟩ := hrel
          have HBm := Lib.hid hB
          have HZ := Lib.hid hz
          clear hB hz
          by_cases hlt : m < xs.length
          · go_wp2_with fail
            go_loopw [8] (fun i wr => ∃ j : Nat, j ≤ m ∧ i = .int .i64 j ∧ Below w.heap.size w wr ∧ ∀ q (hq : q < j) (hqm : q < m), sameT (xs[m]'hlt) (xs[q]'(by omega)) = false) (fun i _ => m - (intOf i).toNat)
            case atStart => exact ⟨0, Nat.zero_le _, rfl, HBm.out, fun _ h => absurd h (Nat.not_lt_zero _)⟩
            case round =>
              obtain ⟨j, hj, rfl, hB, hz⟩ := hrel
              have HB := Lib.hid hB
              have HZj := Lib.hid hz
              clear hB hz
              by_cases hjm : j < m
              · have hjl : j < xs.length := by omega
                obtain ⟨b, off, c2, he, _, _, bk, bl, hce⟩ := (HX.out.below tntOk HB.out HOK.out).addr (by omega)
                simp only [Value.slice.injEq] at he
                obtain ⟨he, -, hec⟩ := he
                cases he
                cases hec
                obtain ⟨y0, y1, y2⟩ := rtaints_k_cells hce m hlt
                obtain ⟨s, hs⟩ : ∃ s, xs[m]'hlt = s := ⟨_, rfl⟩
                rw [hs] at y0 y1 y2
                have HEs := Lib.hid hs
                clear hce hs
                obtain ⟨b2, off2, c2, he, _, _, b2k, b2l, hce⟩ := (HX.out.below tntOk HB.out HOK.out).addr (by omega)
                simp only [Value.slice.injEq] at he
                obtain ⟨he, -, hec⟩ := he
                cases he
                cases hec
                obtain ⟨z0, z1, z2⟩ := rtaints_k_cells hce j hjl
                obtain ⟨u, hu⟩ : ∃ s, xs[j]'hjl = s := ⟨_, rfl⟩
                rw [hu] at z0 z1 z2
                have HEu := Lib.hid hu
                clear hce hu
                have HK := Lib.hid (show ∀ W, Below wr.heap.size wr W → Below wr.heap.size wr W ∧ W.cell? ⟨_, _ + m * 3, none⟩ = some (.string s.key) ∧ W.cell? ⟨_, _ + m * 3 + 1, none⟩ = some (.string s.val) ∧ W.cell? ⟨_, _ + m * 3 + 2, none⟩ = some (.string s.eff) ∧ W.cell? ⟨_, _ + j * 3, none⟩ = some (.string u.key) ∧ W.cell? ⟨_, _ + j * 3 + 1, none⟩ = some (.string u.val) ∧ W.cell? ⟨_, _ + j * 3 + 2, none⟩ = some (.string u.eff) from
                  fun W hW => ⟨hW, (Mod.of_below hW).cell' y0 (fun h => h), (Mod.of_below hW).cell' y1 (fun h => h), (Mod.of_below hW).cell' y2 (fun h => h), (Mod.of_below hW).cell' z0 (fun h => h), (Mod.of_below hW).cell' z1 (fun h => h), (Mod.of_below hW).cell' z2 (fun h => h)⟩)
                have YA := Lib.hid (Below.refl wr.heap.size wr).drew
                obtain ⟨q, ha⟩ : ∃ q, sameT s u = q := ⟨_, rfl⟩
                have HA := Lib.hid ha
                clear ha y0 y1 y2 z0 z1 z2
                go_upto_region 15 with fail
                go_cut [48] (fun v W => v = .bool q ∧ Below wr.heap.size wr W)
                case first =>
                  refine wp_region_held_drew (S := fun W => Below wr.heap.size wr W ∧ W.cell? ⟨_, _ + m * 3, none⟩ = some (.string s.key) ∧ W.cell? ⟨_, _ + m * 3 + 1, none⟩ = some (.string s.val) ∧ W.cell? ⟨_, _ + m * 3 + 2, none⟩ = some (.string s.eff) ∧ W.cell? ⟨_, _ + j * 3, none⟩ = some (.string u.key) ∧ W.cell? ⟨_, _ + j * 3 + 1, none⟩ = some (.string u.val) ∧ W.cell? ⟨_, _ + j * 3 + 2, none⟩ = some (.string u.eff)) (by kernel_rfl) (HK.out _ YA.out) (fun hHeld => ?_)
                  refine' wpAnyH_take (i := 0) (v := _) (List.getElem?_toArray.trans rfl) (by kernel_rfl) (by kernel_rfl) (by kernel_rfl) (fun _ _ _ h => h) (Or.inl ⟨by rfl, ?y0a⟩) hHeld ?r0a
                  case y0a => intro w h; (try dsimp only at h); go_simp; (try with_reducible rfl)
                  try simp only [Act.put, List.setIfInBounds_toArray, List.set_cons_zero, List.set_cons_succ]
                  refine' wpAnyH_take (i := 1) (v := _) (List.getElem?_toArray.trans rfl) (by kernel_rfl) (by kernel_rfl) (by kernel_rfl) (fun _ _ _ h => h) (Or.inl ⟨by rfl, ?y1a⟩) hHeld ?r1a
                  case y1a => intro w h; (try dsimp only at h); go_simp; (try with_reducible rfl)
                  try simp only [Act.put, List.setIfInBounds_toArray, List.set_cons_zero, List.set_cons_succ]
                  refine' wpAnyH_take (i := 2) (v := _) (List.getElem?_toArray.trans rfl) (by kernel_rfl) (by kernel_rfl) (by kernel_rfl) (fun _ _ _ h => h) (Or.inl ⟨by rfl, ?y2a⟩) hHeld ?r2a
                  case y2a => intro w h; (try dsimp only at h); go_simp; (try with_reducible rfl)
                  try simp only [Act.put, List.setIfInBounds_toArray, List.set_cons_zero, List.set_cons_succ]
                  refine' wpAnyH_take (i := 3) (v := _) (List.getElem?_toArray.trans rfl) (by kernel_rfl) (by kernel_rfl) (by kernel_rfl) (fun _ _ _ h => h) (Or.inl ⟨by rfl, ?y3a⟩) hHeld ?r3a
                  case y3a => intro w h; (try dsimp only at h); go_simp; (try with_reducible rfl)
                  try simp only [Act.put, List.setIfInBounds_toArray, List.set_cons_zero, List.set_cons_succ]
                  refine' wpAnyH_take (i := 4) (v := _) (List.getElem?_toArray.trans rfl) (by kernel_rfl) (by kernel_rfl) (by kernel_rfl) (fun _ _ _ h => h) (Or.inl ⟨by rfl, ?y4a⟩) hHeld ?r4a
                  case y4a => intro w h; (try dsimp only at h); go_simp; (try with_reducible rfl)
                  try simp only [Act.put, List.setIfInBounds_toArray, List.set_cons_zero, List.set_cons_succ]
                  refine' wpAnyH_take (i := 5) (v := _) (List.getElem?_toArray.trans rfl) (by kernel_rfl) (by kernel_rfl) (by kernel_rfl) (fun _ _ _ h => h) (Or.inl ⟨by rfl, ?y5a⟩) hHeld ?r5a
                  case y5a => intro w h; (try dsimp only at h); go_simp; (try with_reducible rfl)
                  try simp only [Act.put, List.setIfInBounds_toArray, List.set_cons_zero, List.set_cons_succ]
                  refine' wpAnyH_take (i := 6) (v := _) (List.getElem?_toArray.trans rfl) (by kernel_rfl) (by kernel_rfl) (by kernel_rfl) (fun _ _ _ h => h) (Or.inl ⟨by rfl, ?y6a⟩) hHeld ?r6a
                  case y6a => intro w h; (try dsimp only at h); go_simp; (try with_reducible rfl)
                  try simp only [Act.put, List.setIfInBounds_toArray, List.set_cons_zero, List.set_cons_succ]
                  refine' wpAnyH_take (i := 7) (v := _) (List.getElem?_toArray.trans rfl) (by kernel_rfl) (by kernel_rfl) (by kernel_rfl) (fun _ _ _ h => h) (Or.inl ⟨by rfl, ?y7a⟩) hHeld ?r7a
                  case y7a => intro w h; (try dsimp only at h); go_simp; (try with_reducible rfl)
                  try simp only [Act.put, List.setIfInBounds_toArray, List.set_cons_zero, List.set_cons_succ]
                  refine wpAnyH_ready (rs := [8]) (by kernel_rfl) (by simp) ?_
                  refine AllReadyH.cons (List.getElem?_toArray.trans rfl) (fun K hK => ?_) AllReadyH.nil
                  go_simp
                  refine tsame_k _ _ s u ?_
                  intro w3 g3
                  rw [HA.out]
                  have yb : Below wr.heap.size wr w3 := ⟨g3.os, g3.tape, g3.output, g3.size, g3.block⟩
                  clear g3
                  go_wp2_with fail
                  refine hK.out _ _ (HK.out _ yb) (fun hHeld => ?_)
                  clear hK K
                  try simp only [Act.put, List.setIfInBounds_toArray, List.set_cons_zero, List.set_cons_succ]
                  refine wpAnyH_done (by kernel_rfl) ?_ _
                  go_wp2_with fail
                  go_meet
                  exact ⟨rfl, yb⟩
                obtain ⟨rfl, yb⟩ := hcut
                have HB3 := Lib.hid (HB.out.trans (yb.mono HB.out.size))
                clear yb
                cases q with
                | true =>
                  have hd : dupAt sameT xs m = true := dupAt_true hlt hjm (by rw [HEs.out, HEu.out]; exact HA.out)
                  have e1 := tntMake_dup (by omega) HN.out hlt HZ.out hd
                  have hv := HR.out (.slice none 0 0) wc HB3.out (by rw [e1]; exact SlK.nil)
                  rw [e1] at hv
                  clear e1 hd
                  go_wp2_with fail
                  exact hv
                | false =>
                  go_wp2_with fail
                  go_roundw
                  case rel => exact ⟨j + 1, by omega, by go_num, HB3.out, fun q hq hqm => by
                    by_cases hjk2 : q < j
                    · exact HZj.out q hjk2 hqm
                    · obtain rfl : q = j := by omega
                      rw [HEs.out, HEu.out]; exact HA.out⟩
                  case measure => simp [intOf]; omega
              · obtain rfl : j = m := by omega
                have HD := Lib.hid (dupAt_false hlt (fun q hq => HZj.out q hq hq))
                clear HZj
                go_wp2_with fail
                go_roundw
                case rel => exact ⟨j + 1, by omega, by go_num, HB.out, fun q hq => by
                  by_cases hjk2 : q < j
                  · exact HZ.out q hjk2
                  · obtain rfl : q = j := by omega
                    exact HD.out⟩
                case measure => simp [intOf]; omega
          · have e1 := tntMake_ok (by omega) HN.out (fun q hq => HZ.out q (by omega))
            have HE1 := Lib.hid e1
            obtain rfl : m = xs.length := by omega
            clear e1 HZ hlt hm
            go_wp2_with fail
            go_loopw [9, 10] (fun out i wr => ∃ k : Nat, k ≤ xs.length ∧ i = .int .i64 k ∧ Below w.heap.size w wr ∧ SlK tntK 3 wr (fun j => w.heap.size ≤ j) out (srt ltT (xs.take k))) (fun _ i _ => xs.length - (intOf i).toNat)
            case atStart => exact ⟨0, Nat.zero_le _, rfl, HBm.out, SlK.nil⟩
            case round =>
              obtain ⟨k, hk, rfl, hB, hO⟩ := hrel
              have HB := Lib.hid hB
              have HO := Lib.hid hO
              clear hB hO
              by_cases hlt : k < xs.length
              · obtain ⟨b, off, c2, he, _, _, bk, bl, hce⟩ := (HX.out.below tntOk HB.out HOK.out).addr (by omega)
                simp only [Value.slice.injEq] at he
                obtain ⟨he, -, hec⟩ := he
                cases he
                cases hec
                obtain ⟨y0, y1, y2⟩ := rtaints_k_cells hce k hlt
                obtain ⟨s, hs⟩ : ∃ s, xs[k]'hlt = s := ⟨_, rfl⟩
                rw [hs] at y0 y1 y2
                have HEs := Lib.hid hs
                clear hce hs
                go_wp2_with fail
                refine rwith_k _ _ _ _ _ s (fun j hj => hj.2) (HO.out.bnd tntOk) (by rw [srt_length, List.length_take]; omega) ?_
                intro v3 w3 g3 hO3
                have HO3 := Lib.hid (show SlK tntK 3 w3 (fun j => w.heap.size ≤ j) v3 (srt ltT (xs.take (k + 1))) by
                  rw [srt_take hlt, HEs.out, ← withT_eq]
                  exact hO3.mono tntOk (fun j hj => Nat.le_trans HB.out.size hj))
                have HB3 := Lib.hid (HB.out.trans (g3.mono HB.out.size))
                clear g3 hO3 y0 y1 y2
                go_wp2_with fail
                go_roundw
                case rel => exact ⟨k + 1, by omega, by go_num, HB3.out, HO3.out⟩
                case measure => simp [intOf]; omega
              · obtain rfl : k = xs.length := by omega
                have hv := HR.out _ wr HB.out (by rw [HE1.out]; have := HO.out; rw [List.take_length] at this; exact this)
                rw [HE1.out] at hv
                clear hlt hk
                go_wp2_with fail
                exact hv

end Go.Proofs.YtdceflgemhcgcaaGreatDoor
