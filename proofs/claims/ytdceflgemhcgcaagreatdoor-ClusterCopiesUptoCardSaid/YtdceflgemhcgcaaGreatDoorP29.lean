/-
slices.ContainsFunc at taints, under taint.Make's closure.
taint.Make.
quant.Make.
-/
import Derived.Test.YtdceflgemhcgcaaGreatDoorP28
import Derived.Test.YtdceflgemhcgcaaGreatDoorP19
import Derived.Test.YtdceflgemhcgcaaGreatDoorP12
import Derived.Test.YtdceflgemhcgcaaGreatDoorP13
set_option linter.unusedVariables false
set_option linter.unusedSimpArgs false
namespace Go.Proofs.YtdceflgemhcgcaaGreatDoor
open Go.RowKit Go.Sort Go.BigFrame

theorem cmpB_zero (a b : ByteArray) : decide (cmpB a b = 0) = (a.toList == b.toList) := by
  unfold cmpB
  rcases ltB_tri a b with h | h | h
  · have : (a.toList == b.toList) = false := by
      rw [beq_eq_false_iff_ne]; intro h2; rw [ba_toList_inj.1 h2, ltB_irrefl] at h; cases h
    rw [h, this]; rfl
  · subst h; rw [ltB_irrefl]; simp
  · have : (a.toList == b.toList) = false := by
      rw [beq_eq_false_iff_ne]; intro h2; rw [ba_toList_inj.1 h2, ltB_irrefl] at h; cases h
    rw [ltB_asymm h, h, this]; rfl
theorem cmpT_zero (x y : Tnt) : decide (cmpT x y = 0) = sameT x y := by
  have h1 := cmpB_zero x.key y.key
  have h2 := cmpB_zero x.eff y.eff
  unfold cmpT sameT
  rw [← h1, ← h2]
  by_cases h : cmpB x.key y.key = 0
  · rw [if_neg (by omega), h]; simp
  · rw [if_pos h, decide_eq_false h]; rfl
theorem compare_k (R : Ending → World → Prop) (w : World) (x y : Tnt) (hR : ∀ w', Below w.heap.size w w' → R (.returned (.int .i64 (cmpT x y))) w') :
    Calls Tryz.prog 121 #[.agg #[.string x.key, .string x.val, .string x.eff], .agg #[.string y.key, .string y.val, .string y.eff]] w R := by
  refine (compare_c x y w).mono ?_
  rintro e w' ⟨rfl, q, os, rfl⟩
  exact hR _ ⟨rfl, rfl, rfl, by rw [size_grow]; exact Nat.le_add_right _ _, fun j hj => by show (w.heap ++ os)[j]? = _; rw [Array.getElem?_append_left hj]⟩
set_option maxRecDepth 100000 in
set_option maxHeartbeats 4000000 in
theorem isDup_k (R : Ending → World → Prop) (w : World) (p : Nat) (t u : Tnt) (hp : w.heap[p]? = some (.cells #[.string t.key, .string t.val, .string t.eff] 34)) (hR : ∀ w', Below w.heap.size w w' → R (.returned (.bool (sameT t u))) w') :
    Calls Tryz.prog 120 #[.agg #[.string u.key, .string u.val, .string u.eff], .pointer (some ⟨p, 0, none⟩)] w R := by
  have HR := Lib.hid hR
  clear hR
  have hz := cmpT_zero t u
  have HP := Lib.hid hp
  obtain ⟨w1, hw1⟩ : ∃ w1, w1 = w.alloc (.cells #[.string u.key, .string u.val, .string u.eff] 34) := ⟨_, rfl⟩
  have HB1 := Lib.hid (show Below w.heap.size w w1 by rw [hw1]; exact Below.alloc (Below.refl _ _) (Nat.le_refl _) _)
  have hu : w1.heap[w.heap.size]? = some (.cells #[.string u.key, .string u.val, .string u.eff] 34) := by rw [hw1]; exact heap_alloc_new _ _
  have hp1 : w1.heap[p]? = some (.cells #[.string t.key, .string t.val, .string t.eff] 34) := (HB1.out.block p (Array.getElem?_eq_some_iff.1 hp).1).trans hp
  clear hp
  have z0 : w1.cell? ⟨p, 0, none⟩ = some (.string t.key) := cell_at hp1 rfl
  have z1 : w1.cell? ⟨p, 1, none⟩ = some (.string t.val) := cell_at hp1 rfl
  have z2 : w1.cell? ⟨p, 2, none⟩ = some (.string t.eff) := cell_at hp1 rfl
  have y0 : w1.cell? ⟨w.heap.size, 0, none⟩ = some (.string u.key) := cell_at hu rfl
  have y1 : w1.cell? ⟨w.heap.size, 1, none⟩ = some (.string u.val) := cell_at hu rfl
  have y2 : w1.cell? ⟨w.heap.size, 2, none⟩ = some (.string u.eff) := cell_at hu rfl
  clear hp1 hu
  go_enter Tryz.func120, Tryz.ntmps120
  go_upto_region 1 with fail
  rw [← hw1]
  clear hw1
  go_wp2_with fail
  refine compare_k _ _ t u ?_
  intro w3 g3
  have hv := HR.out w3 (HB1.out.trans (g3.mono HB1.out.size))
  clear g3
  obtain ⟨r, hr⟩ : ∃ r, cmpT t u = r := ⟨_, rfl⟩
  rw [hr] at hz
  rw [hr]
  rw [← hz, show decide (r = 0) = (r == 0) from rfl] at hv
  clear hr hz
  go_wp2_with fail
  exact hv
/-- Is one of them of its key and effect? -/
def hasDup (t : Tnt) (xs : List Tnt) : Bool := xs.any (fun u => sameT t u)
set_option maxRecDepth 100000 in
set_option maxHeartbeats 4000000 in
theorem indexT_k (R : Ending → World → Prop) (w : World) (ok : Nat → Prop) (v : Value) (xs : List Tnt) (p : Nat) (t : Tnt) (hok : ∀ k, ok k → k < w.heap.size) (hx : SlK tntK 3 w ok v xs) (hl : xs.length ≤ 1073741824)
    (hp : w.heap[p]? = some (.cells #[.string t.key, .string t.val, .string t.eff] 34)) (hR : ∀ (r : Int) w', decide (r ≥ 0) = hasDup t xs → Below w.heap.size w w' → R (.returned (.int .i64 r)) w') :
    Calls Tryz.prog 206 #[v, .func (.func 120) #[] #[.pointer (some ⟨p, 0, none⟩)]] w R := by
  obtain ⟨A, c, rfl, hlc, _⟩ := hx.form
  have HR := Lib.hid hR
  have HP := Lib.hid hp
  have hpl := (Array.getElem?_eq_some_iff.1 hp).1
  clear hR hp
  go_enter Tryz.func206, Tryz.ntmps206
  go_wp2_with fail
  go_loopw [8] (fun i wr => ∃ k : Nat, k ≤ xs.length ∧ i = .int .i64 k ∧ Below w.heap.size w wr ∧ ∀ j (hj : j < xs.length), j < k → sameT t (xs[j]'hj) = false) (fun i _ => xs.length - (intOf i).toNat)
  case atStart => exact ⟨0, Nat.zero_le _, rfl, Below.refl _ _, fun _ _ h => absurd h (Nat.not_lt_zero _)⟩
  case round =>
    obtain ⟨k, hk, rfl, hB, hz⟩ := hrel
    have HZ := Lib.hid hz
    have HB := Lib.hid hB
    clear hz
    by_cases hlt : k < xs.length
    · have hx' := hx.below tntOk hB hok
      obtain ⟨b, off, c2, he, _, _, hbk, hbl, hce⟩ := hx'.addr (by omega)
      simp only [Value.slice.injEq] at he
      obtain ⟨rfl, -, rfl⟩ := he
      obtain ⟨y0, y1, y2⟩ := rtaints_k_cells hce k hlt
      obtain ⟨s, hs⟩ : ∃ s, xs[k]'hlt = s := ⟨_, rfl⟩
      rw [hs] at y0 y1 y2
      have HSX := Lib.hid hs
      clear hce hx' hs hB
      go_wp2_with fail
      refine isDup_k _ _ p t s ((HB.out.block p hpl).trans HP.out) ?_
      intro w3 g3
      have HB3 := Lib.hid (HB.out.trans (g3.mono HB.out.size))
      clear g3 y0 y1 y2
      obtain ⟨q, hq⟩ : ∃ q, sameT t s = q := ⟨_, rfl⟩
      rw [hq]
      have HQ := Lib.hid hq
      clear hq
      cases q with
      | true =>
        have hv := HR.out (k : Int) w3 (by
          have : hasDup t xs = true := List.any_eq_true.2 ⟨_, List.getElem_mem hlt, by rw [HSX.out]; exact HQ.out⟩
          rw [this]; simp) HB3.out
        go_wp2_with fail
        exact hv
      | false =>
        go_wp2_with fail
        go_roundw
        case rel => exact ⟨k + 1, by omega, by go_num, HB3.out, fun j hj hjk => by
          by_cases hjk2 : j < k
          · exact HZ.out j hj hjk2
          · obtain rfl : j = k := by omega
            rw [HSX.out]; exact HQ.out⟩
        case measure => simp [intOf]; omega
    · have hv := HR.out (-1) wr (by
        have : hasDup t xs = false := by
          unfold hasDup
          rw [List.any_eq_false]
          intro u hu
          obtain ⟨j, hj, rfl⟩ := List.mem_iff_getElem.1 hu
          rw [HZ.out j hj (by omega)]
          simp
        rw [this]; rfl) hB
      obtain rfl : k = xs.length := by omega
      clear hB
      go_wp2_with fail
      exact hv
set_option maxRecDepth 100000 in
set_option maxHeartbeats 4000000 in
theorem containsT_k (R : Ending → World → Prop) (w : World) (ok : Nat → Prop) (v : Value) (xs : List Tnt) (p : Nat) (t : Tnt) (hok : ∀ k, ok k → k < w.heap.size) (hx : SlK tntK 3 w ok v xs) (hl : xs.length ≤ 1073741824)
    (hp : w.heap[p]? = some (.cells #[.string t.key, .string t.val, .string t.eff] 34)) (hR : ∀ w', Below w.heap.size w w' → R (.returned (.bool (hasDup t xs))) w') :
    Calls Tryz.prog 119 #[v, .func (.func 120) #[] #[.pointer (some ⟨p, 0, none⟩)]] w R := by
  have HR := Lib.hid hR
  clear hR
  go_enter Tryz.func119, Tryz.ntmps119
  go_wp2_with fail
  refine indexT_k _ _ ok _ xs p t hok hx hl hp ?_
  intro r w3 hr g3
  have hv := HR.out w3 g3
  rw [← hr] at hv
  clear hr g3 hx hp
  go_wp2_with fail
  exact hv
end Go.Proofs.YtdceflgemhcgcaaGreatDoor

namespace Go.Proofs.YtdceflgemhcgcaaGreatDoor
open Go.RowKit Go.BigFrame

theorem SlK.pre {α : Type} {K : KRel α} {sz : Nat} {w : World} {ok : Nat → Prop} {A : Option Addr} {c k : Nat} {xs : List α} (h : SlK K sz w ok (.slice A xs.length c) xs) (hk : k ≤ xs.length) : SlK K sz w ok (.slice A k c) (xs.take k) := by
  obtain ⟨A', c', he, h1, h2, h3⟩ := h
  simp only [Value.slice.injEq] at he
  obtain ⟨rfl, -, rfl⟩ := he
  have hl : (xs.take k).length = k := by rw [List.length_take]; omega
  refine ⟨A, c, by rw [hl], by rw [hl]; omega, h2, ?_⟩
  rcases h3 with rfl | ⟨b, off, rfl, h4, h5, h6⟩
  · exact .inl (by simp)
  · exact .inr ⟨b, off, rfl, h4, h5, fun j x hx => h6 j x (by rw [List.getElem?_take] at hx; split at hx <;> first | exact hx | cases hx)⟩
set_option maxRecDepth 100000 in
set_option maxHeartbeats 8000000 in
theorem tmake_k (R : Ending → World → Prop) (w : World) (ok : Nat → Prop) (v : Value) (xs : List Tnt) (hG : GOk w) (hok : ∀ k, ok k → k < w.heap.size) (hx : SlK tntK 3 w ok v xs) (hs : ∀ s ∈ xs, s.key.size ≤ 1048576 ∧ s.val.size ≤ 1048576 ∧ s.eff.size ≤ 1048576) (hl : xs.length ≤ 1073741824)
    (hR : ∀ v' w', Below w.heap.size w w' → SlR tntK 3 w' (fun k => w.heap.size ≤ k) v' (tntMake xs).1 → R (.returned (.tuple #[v', .int .i64 (tntMake xs).2.1, .int .i64 (tntMake xs).2.2])) w') :
    Calls Tryz.prog 51 #[v] w R := by
  obtain ⟨A, c, rfl, hlc, _⟩ := hx.form
  have HR := Lib.hid hR
  have HS := Lib.hid hs
  have HX := Lib.hid hx
  have HOK := Lib.hid hok
  have HG := Lib.hid hG
  clear hR hs hx hok hG
  by_cases h16 : 16 < xs.length
  · have e1 : tntMake xs = ([], 0, 44) := by unfold tntMake; rw [if_pos h16]
    have hv := HR.out (.slice none 0 0) w (Below.refl _ _) (by rw [e1]; exact SlR.nil)
    rw [e1] at hv
    have hcast : (16 : Int) < (xs.length : Int) := by omega
    clear e1
    go_enter Tryz.func51, Tryz.ntmps51
    go_wp2_with fail
    exact hv
  · have hcast : ¬ (16 : Int) < (xs.length : Int) := by omega
    have hln : xs.length ≤ 16 := by omega
    go_enter Tryz.func51, Tryz.ntmps51
    go_wp2_with fail
    go_loopw [16] (fun i wr => ∃ k : Nat, k ≤ xs.length ∧ i = .int .i64 k ∧ Below w.heap.size w wr ∧ ∀ j, j < k → tntF xs j = 0) (fun i _ => xs.length - (intOf i).toNat)
    case atStart => exact ⟨0, Nat.zero_le _, rfl, Below.refl _ _, fun _ h => absurd h (Nat.not_lt_zero _)⟩
    case round =>
      obtain ⟨k, hk, rfl, hB, hz⟩ := hrel
      have HB := Lib.hid hB
      have HZ := Lib.hid hz
      clear hB hz
      by_cases hlt : k < xs.length
      · obtain ⟨b, off, c2, he, _, _, bk, bl, hce⟩ := (HX.out.below tntOk HB.out HOK.out).addr (by omega)
        simp only [Value.slice.injEq] at he
        obtain ⟨he, -, hec⟩ := he
        cases he
        cases hec
        obtain ⟨y0, y1, y2⟩ := rtaints_k_cells hce k hlt
        obtain ⟨s, hs⟩ : ∃ s, xs[k]'hlt = s := ⟨_, rfl⟩
        rw [hs] at y0 y1 y2
        have HEs := Lib.hid hs
        clear hce hs
        have fit := HS.out s (by rw [← HEs.out]; exact List.getElem_mem hlt)
        go_wp2_with fail
        refine ctaint_k _ _ s (GOk.mod HG.out (Mod.of_below (HB.out.alloc HB.out.size _)) (fun h => h)) fit ?_
        intro w3 g3
        have B3 := Lib.hid ((HB.out.alloc HB.out.size _).trans (g3.mono (HB.out.alloc HB.out.size _).size))
        clear g3 y0 y1 y2
        by_cases he : taintErr s = 0
        · rw [he]
          have HE := Lib.hid he
          clear he
          go_wp2_with fail
          go_roundw
          case rel => exact ⟨k + 1, by omega, by go_num, B3.out, fun j hj => by
            by_cases hjk2 : j < k
            · exact HZ.out j hjk2
            · obtain rfl : j = k := by omega
              rw [tntF_at hlt, HEs.out]; exact HE.out⟩
          case measure => simp [intOf]; omega
        · have e1 := tntMake_bad (by omega) hlt HZ.out (by rw [tntF_at hlt, HEs.out]; exact he)
          have hv := HR.out (.slice none 0 0) w3 B3.out (by rw [e1]; exact SlR.nil)
          rw [e1, tntF_at hlt, HEs.out] at hv
          clear e1
          obtain ⟨er, her⟩ : ∃ er, er = taintErr s := ⟨_, rfl⟩
          rw [← her] at he hv
          rw [← her]
          clear her
          go_wp2_with fail
          exact hv
      · have HN := Lib.hid (show ∀ j, j < xs.length → tntF xs j = 0 from fun j hj => HZ.out j (by omega))
        obtain rfl : k = xs.length := by omega
        clear HZ hk hlt
        have HB9 := HB
        clear HB
        go_wp2_with fail
        go_loopw [30] (fun i wr => ∃ k : Nat, k ≤ xs.length ∧ i = .int .i64 k ∧ Below w.heap.size w wr ∧ ∀ j, j < k → dupAt sameT xs j = false) (fun i _ => xs.length - (intOf i).toNat)
        case atStart => exact ⟨0, Nat.zero_le _, rfl, HB9.out, fun _ h => absurd h (Nat.not_lt_zero _)⟩
        case round =>
          obtain ⟨k, hk, rfl, hB, hz⟩ := hrel
          have HB := Lib.hid hB
          have HZ := Lib.hid hz
          clear hB hz
          by_cases hlt : k < xs.length
          · have hpre := SlK.pre (HX.out) (k := k) (by omega)
            obtain ⟨b, off, c2, he, _, _, bk, bl, hce⟩ := (HX.out.below tntOk HB.out HOK.out).addr (by omega)
            simp only [Value.slice.injEq] at he
            obtain ⟨he, -, hec⟩ := he
            cases he
            cases hec
            obtain ⟨y0, y1, y2⟩ := rtaints_k_cells hce k hlt
            obtain ⟨s, hs⟩ : ∃ s, xs[k]'hlt = s := ⟨_, rfl⟩
            rw [hs] at y0 y1 y2
            have HEs := Lib.hid hs
            clear hce hs
            obtain ⟨w3, hw3⟩ : ∃ w3, w3 = wr.alloc (.cells #[.string s.key, .string s.val, .string s.eff] 34) := ⟨_, rfl⟩
            have HB3 := Lib.hid (show Below w.heap.size w w3 by rw [hw3]; exact Below.alloc HB.out HB.out.size _)
            have HX3 := Lib.hid (show w3.heap[wr.heap.size]? = some (.cells #[.string s.key, .string s.val, .string s.eff] 34) by rw [hw3]; exact heap_alloc_new _ _)
            have HP := Lib.hid hpre
            clear hpre
            go_upto_region 13 with fail
            rw [← hw3]
            clear hw3 y0 y1 y2
            go_wp2_with fail
            refine containsT_k _ _ ok _ (xs.take k) wr.heap.size s (fun j h => Nat.lt_of_lt_of_le (HOK.out j h) HB3.out.size) (HP.out.below tntOk HB3.out HOK.out) (by rw [List.length_take]; omega) HX3.out ?_
            intro w4 g4
            have HB4 := Lib.hid (HB3.out.trans (g4.mono HB3.out.size))
            clear g4
            have hdd : hasDup s (xs.take k) = dupAt sameT xs k := by unfold hasDup dupAt; rw [List.getElem?_eq_getElem hlt, HEs.out]
            rw [hdd]
            clear hdd
            obtain ⟨d, hd⟩ : ∃ d, dupAt sameT xs k = d := ⟨_, rfl⟩
            rw [hd]
            have HD := Lib.hid hd
            clear hd
            cases d with
            | true =>
              have e1 := tntMake_dup (by omega) HN.out hlt HZ.out HD.out
              have hv := HR.out (.slice none 0 0) w4 HB4.out (by rw [e1]; exact SlR.nil)
              rw [e1] at hv
              clear e1
              go_wp2_with fail
              exact hv
            | false =>
              go_wp2_with fail
              go_roundw
              case rel => exact ⟨k + 1, by omega, by go_num, HB4.out, fun q hq => by
                by_cases hjk2 : q < k
                · exact HZ.out q hjk2
                · obtain rfl : q = k := by omega
                  exact HD.out⟩
              case measure => simp [intOf]; omega
          · have hz := fun q (hq : q < xs.length) => HZ.out q (by omega)
            have e1 := tntMake_ok (by omega) HN.out hz
            have HDI := Lib.hid (sameT_dist hz)
            have HE1 := Lib.hid e1
            obtain rfl : k = xs.length := by omega
            clear e1 hz HZ hlt hk
            have HO0 := Lib.hid (show OwnK tntK 3 34 (wr.alloc (.cells #[] 34)) w.heap.size (fun _ => False) (.slice (some ⟨wr.heap.size, 0, none⟩) 0 0) ([] : List Tnt) from OwnK.made (fun _ h => h.elim) HB.out.size (by simp [maxLen]) rfl)
            have HBc := Lib.hid (show Below w.heap.size w (wr.alloc (.cells #[] 34)) from Below.alloc HB.out HB.out.size _)
            go_wp2_with (at_builtin; refine append_row_k tntOk rfl _ _ 23 34 (.agg #[.string ⟨#[]⟩, .string ⟨#[]⟩, .string ⟨#[]⟩]) 48 w.heap.size (fun _ => False) ok (fun _ _ h => h) rfl Tryz.underlying23 infoTnt rfl (by decide) (by decide) (.slice (some ⟨wr.heap.size, 0, none⟩) 0 0) _ [] xs rfl rfl ?c1 HO0.out (HX.out.below tntOk HBc.out HOK.out) HBc.out.size ?c3 ?_)
            case c1 =>
              intro _ _ _ _ h u hu
              cases h
              simp [tntC] at hu
              rcases hu with rfl | rfl | rfl <;> rfl
            case c3 => simp; omega
            intro v2 w2 hO2 hg2 hat
            have HB2 := Lib.hid (HBc.out.grown hg2 HBc.out.size (fun k h => (HO0.out.own k h).1))
            have HO2 := Lib.hid (show OwnK tntK 3 34 w2 w.heap.size (fun _ => False) v2 xs from hO2)
            clear hO2 hg2 hat
            go_wp2_with fail
            refine sortT_k _ _ w.heap.size _ xs HO2.out HB2.out.size HDI.out (by omega) ?_
            intro w5 g5 hs5
            have hv := HR.out v2 w5 (HB2.out.trans g5) (by rw [HE1.out]; exact hs5)
            rw [HE1.out] at hv
            clear g5 hs5
            go_wp2_with fail
            exact hv

end Go.Proofs.YtdceflgemhcgcaaGreatDoor

namespace Go.Proofs.YtdceflgemhcgcaaGreatDoor
open Go.RowKit Go.BigFrame

theorem hasB_any (xs : List Itm) (name : ByteArray) : hasB xs name = xs.any (fun y => y.name.toList == name.toList) := by
  by_cases h : ∃ j, ∃ hj : j < xs.length, (xs[j]'hj).name = name
  · obtain ⟨j, hj, e⟩ := h
    rw [List.any_eq_true.2 ⟨_, List.getElem_mem hj, by rw [e]; simp⟩]
    have hne : hasB xs name ≠ false := fun hf => by
      unfold hasB at hf
      have hf := of_decide_eq_false hf
      have hf : (firstErr (nmE name) xs 0).2 = 0 := Decidable.not_not.1 hf
      have key : ∀ (l : List Itm) (i : Nat), (firstErr (nmE name) l i).2 = 0 → ∀ y ∈ l, nmE name y = 0 := by
        intro l
        induction l with
        | nil => intro i _ y hy; simp at hy
        | cons x r ih =>
          intro i h y hy
          unfold firstErr at h
          by_cases hx : nmE name x = 0
          · rw [if_pos hx] at h
            rcases List.mem_cons.1 hy with rfl | hy
            · exact hx
            · exact ih _ h y hy
          · rw [if_neg hx] at h; exact absurd h hx
      have := key xs 0 hf _ (List.getElem_mem hj)
      unfold nmE at this
      rw [if_pos e] at this
      cases this
    cases hq : hasB xs name with
    | true => rfl
    | false => exact absurd hq hne
  · rw [(has_none (fun j hj => by unfold nmE; rw [if_neg (fun e => h ⟨j, hj, e⟩)])).1]
    symm
    rw [List.any_eq_false]
    intro y hy
    obtain ⟨j, hj, rfl⟩ := List.mem_iff_getElem.1 hy
    intro e
    exact h ⟨j, hj, ba_toList_inj.1 (eq_of_beq e)⟩
theorem has_dup {xs : List Itm} {k : Nat} (hk : k < xs.length) : hasB (xs.take k) (xs[k]'hk).name = dupAt itmE xs k := by
  rw [hasB_any]
  unfold dupAt
  rw [List.getElem?_eq_getElem hk]
  rfl
theorem itmErr_dist {xs : List Itm} (h : ∀ j, j < xs.length → itmErr xs j = 0) : Dist ltI xs := itmE_dist (fun i hi => by
  have h := h i hi
  rw [itmErr_at hi] at h
  cases hq : dupAt itmE xs i with
  | false => rfl
  | true =>
    rw [hq] at h
    by_cases h1 : itemB (xs[i]'hi).name = false
    · rw [if_pos h1] at h; cases h
    · rw [if_neg h1] at h
      by_cases h2 : (xs[i]'hi).n < 0
      · rw [if_pos h2] at h; cases h
      · rw [if_neg h2] at h; cases h)
set_option maxRecDepth 100000 in
set_option maxHeartbeats 8000000 in
theorem qmake_k (R : Ending → World → Prop) (w : World) (ok : Nat → Prop) (v : Value) (xs : List Itm) (hok : ∀ k, ok k → k < w.heap.size) (hx : SlK itmK 2 w ok v xs) (hs : ∀ s ∈ xs, s.name.size ≤ 1048576) (hi : ∀ s ∈ xs, -9223372036854775808 ≤ s.n ∧ s.n ≤ 9223372036854775807) (hl : xs.length ≤ 1073741824)
    (hR : ∀ v' w', Below w.heap.size w w' → SlR itmK 2 w' (fun k => w.heap.size ≤ k) v' (itmMake xs).1 → R (.returned (.tuple #[v', .string (itmMake xs).2.1, .int .i64 (itmMake xs).2.2])) w') :
    Calls Tryz.prog 52 #[v] w R := by
  obtain ⟨A, c, rfl, hlc, _⟩ := hx.form
  have HR := Lib.hid hR
  have HS := Lib.hid hs
  have HX := Lib.hid hx
  have HOK := Lib.hid hok
  clear hR hs hx hok hi
  by_cases h16 : 16 < xs.length
  · have e1 : itmMake xs = ([], ⟨#[]⟩, 27) := by unfold itmMake; rw [if_pos h16]
    have hv := HR.out (.slice none 0 0) w (Below.refl _ _) (by rw [e1]; exact SlR.nil)
    rw [e1] at hv
    have hcast : (16 : Int) < (xs.length : Int) := by omega
    clear e1
    go_enter Tryz.func52, Tryz.ntmps52
    go_wp2_with fail
    exact hv
  · have hcast : ¬ (16 : Int) < (xs.length : Int) := by omega
    have hln : xs.length ≤ 16 := by omega
    obtain ⟨i0, hi0, hzz⟩ := Option.map_eq_some_iff.1 infoItm
    simp only [Prod.mk.injEq] at hzz
    obtain ⟨hz0, hz1, hz2⟩ := hzz
    have hmk := run_make (P := Tryz.prog) w 24 110 i0 _ Tryz.underlying24 hi0 hz0 .i64 .i64 0 (xs.length : Int) (by omega) (by omega) (by rw [hz2]; omega) (by omega)
    rw [hz1] at hmk
    simp only [Int.toNat_natCast, Int.toNat_zero] at hmk
    obtain ⟨w1, hw1⟩ : ∃ w1, w1 = w.alloc (.cells (madeCells (Value.agg #[.string ⟨#[]⟩, .int .i64 0]).cells (xs.length * 2)) 110) := ⟨_, rfl⟩
    have HB1 := Lib.hid (show Below w.heap.size w w1 by rw [hw1]; exact Below.alloc (Below.refl _ _) (Nat.le_refl _) _)
    have HO1 := Lib.hid (show OwnK itmK 2 110 w1 w.heap.size (fun _ => False) (.slice (some ⟨w.heap.size, 0, none⟩) 0 xs.length) ([] : List Itm) by rw [hw1]; exact OwnK.made (fun _ h => h.elim) (Nat.le_refl _) (by simp [maxLen]; omega) (size_madeCells _ _))
    rw [← hw1] at hmk
    clear hi0 hz0 hz1 hz2 hw1
    go_enter Tryz.func52, Tryz.ntmps52
    go_upto_region 4 with fail
    clear hmk
    go_wp2_with fail
    go_loopw [5, 16] (fun out i wr => ∃ k : Nat, k ≤ xs.length ∧ i = .int .i64 k ∧ Below w.heap.size w wr ∧ OwnK itmK 2 110 wr w.heap.size (fun _ => False) out ((xs.take k).filter nzI) ∧ ∀ j, j < k → itmErr xs j = 0) (fun _ i _ => xs.length - (intOf i).toNat)
    case atStart => exact ⟨0, Nat.zero_le _, rfl, HB1.out, HO1.out, fun _ h => absurd h (Nat.not_lt_zero _)⟩
    case round =>
      obtain ⟨k, hk, rfl, hB, hO, hz⟩ := hrel
      have HB := Lib.hid hB
      have HO := Lib.hid hO
      have HZ := Lib.hid hz
      clear hB hO hz
      by_cases hlt : k < xs.length
      · have hpre := SlK.pre (HX.out) (k := k) (by omega)
        obtain ⟨b, off, c2, he, _, _, bk, bl, hce⟩ := (HX.out.below itmOk HB.out HOK.out).addr (by omega)
        simp only [Value.slice.injEq] at he
        obtain ⟨he, -, hec⟩ := he
        cases he
        cases hec
        obtain ⟨y0, y1⟩ := ritems_k_cells hce k hlt
        obtain ⟨s, hs⟩ : ∃ s, xs[k]'hlt = s := ⟨_, rfl⟩
        rw [hs] at y0 y1
        have HEs := Lib.hid hs
        clear hce hs
        have HP := Lib.hid hpre
        clear hpre
        have fit := HS.out s (by rw [← HEs.out]; exact List.getElem_mem hlt)
        obtain ⟨w3, hw3⟩ : ∃ w3, w3 = wr.alloc (.cells #[.string s.name, .int .i64 s.n] 110) := ⟨_, rfl⟩
        have HB3 := Lib.hid (show Below w.heap.size w w3 by rw [hw3]; exact Below.alloc HB.out HB.out.size _)
        have HO3 := Lib.hid (show OwnK itmK 2 110 w3 w.heap.size (fun _ => False) u5 ((xs.take k).filter nzI) by rw [hw3]; exact HO.out.alloc itmOk _)
        have HX3 := Lib.hid (show w3.heap[wr.heap.size]? = some (.cells #[.string s.name, .int .i64 s.n] 110) by rw [hw3]; exact heap_alloc_new _ _)
        have HE := Lib.hid (itmErr_at hlt)
        rw [HEs.out] at HE
        go_upto_region 7 with fail
        rw [← hw3]
        clear hw3 y0 y1
        have y0 : w3.cell? ⟨wr.heap.size, 0, none⟩ = some (.string s.name) := cell_at HX3.out rfl
        have y1 : w3.cell? ⟨wr.heap.size, 1, none⟩ = some (.int .i64 s.n) := cell_at HX3.out rfl
        go_wp2_with fail
        refine qname_k _ _ s.name fit ?_
        cases ek : itemB s.name with
        | false =>
          have e0 : itmErr xs k = 24 := by rw [HE.out, ek] <;> rfl
          have e1 := itmMake_bad (by omega) hlt HZ.out (by rw [e0]; decide)
          have hv := fun n => HR.out (.slice none 0 0) (w3.drewN n) (below_drewN HB3.out n) (by rw [e1]; exact SlR.nil)
          rw [e1, e0, HEs.out] at hv
          clear e1 e0 ek
          go_wp2_with fail
          go_quiet (fail)
          go_wp2_with fail
          exact hv _
        | true =>
          by_cases hn : s.n < 0
          · have e0 : itmErr xs k = 26 := by rw [HE.out, ek, if_neg (by decide), if_pos hn] <;> rfl
            have e1 := itmMake_bad (by omega) hlt HZ.out (by rw [e0]; decide)
            have hv := fun n => HR.out (.slice none 0 0) (w3.drewN n) (below_drewN HB3.out n) (by rw [e1]; exact SlR.nil)
            rw [e1, e0, HEs.out] at hv
            clear e1 e0 ek
            go_wp2_with fail
            go_quiet (fail)
            go_wp2_with fail
            exact hv _
          · obtain ⟨d, hd⟩ : ∃ d, dupAt itmE xs k = d := ⟨_, rfl⟩
            have hdd : hasB (xs.take k) s.name = d := by rw [← hd, ← HEs.out]; exact has_dup hlt
            have HD := Lib.hid hd
            have HDD := Lib.hid hdd
            have HK := Lib.hid (show ∀ W, Below w3.heap.size w3 W → Below w3.heap.size w3 W ∧ W.cell? ⟨wr.heap.size, 0, none⟩ = some (.string s.name) from
              fun W hW => ⟨hW, (Mod.of_below hW).cell' y0 (fun h => h)⟩)
            have YA := Lib.hid (Below.refl w3.heap.size w3).drew
            clear hd hdd
            go_upto_region 11 with fail
            go_cut [34] (fun v W => v = .bool d ∧ Below w3.heap.size w3 W)
            case first =>
              clear y0 y1
              refine wp_region_held_drew (S := fun W => Below w3.heap.size w3 W ∧ W.cell? ⟨wr.heap.size, 0, none⟩ = some (.string s.name)) (by kernel_rfl) (HK.out _ YA.out) (fun hHeld => ?_)
              refine' wpAnyH_take (i := 0) (v := _) (List.getElem?_toArray.trans rfl) (by kernel_rfl) (by kernel_rfl) (by kernel_rfl) (fun _ _ _ h => h) (Or.inl ⟨by rfl, ?y0a⟩) hHeld ?r0a
              case y0a => intro w h; (try dsimp only at h); go_simp; (try with_reducible rfl)
              try simp only [Act.put, List.setIfInBounds_toArray, List.set_cons_zero, List.set_cons_succ]
              refine' wpAnyH_take (i := 1) (v := _) (List.getElem?_toArray.trans rfl) (by kernel_rfl) (by kernel_rfl) (by kernel_rfl) (fun _ _ _ h => h) (Or.inl ⟨by rfl, ?y1a⟩) hHeld ?r1a
              case y1a => intro w h; (try dsimp only at h); go_simp; (try with_reducible rfl)
              try simp only [Act.put, List.setIfInBounds_toArray, List.set_cons_zero, List.set_cons_succ]
              refine' wpAnyH_take (i := 2) (v := _) (List.getElem?_toArray.trans rfl) (by kernel_rfl) (by kernel_rfl) (by kernel_rfl) (fun _ _ _ h => h) (Or.inl ⟨by rfl, ?y2a⟩) hHeld ?r2a
              case y2a => intro w h; (try dsimp only at h); go_simp; rw [if_pos (show k ≤ c by omega)]; (try with_reducible rfl)
              try simp only [Act.put, List.setIfInBounds_toArray, List.set_cons_zero, List.set_cons_succ]
              refine' wpAnyH_take (i := 3) (v := _) (List.getElem?_toArray.trans rfl) (by kernel_rfl) (by kernel_rfl) (by kernel_rfl) (fun _ _ _ h => h) (Or.inl ⟨by rfl, ?y3a⟩) hHeld ?r3a
              case y3a => intro w h; (try dsimp only at h); go_simp; (try with_reducible rfl)
              try simp only [Act.put, List.setIfInBounds_toArray, List.set_cons_zero, List.set_cons_succ]
              refine' wpAnyH_take (i := 4) (v := _) (List.getElem?_toArray.trans rfl) (by kernel_rfl) (by kernel_rfl) (by kernel_rfl) (fun _ _ _ h => h) (Or.inl ⟨by rfl, ?y4a⟩) hHeld ?r4a
              case y4a => intro w h; (try dsimp only at h); go_simp; (try with_reducible rfl)
              try simp only [Act.put, List.setIfInBounds_toArray, List.set_cons_zero, List.set_cons_succ]
              refine wpAnyH_ready (rs := [5]) (by kernel_rfl) (by simp) ?_
              refine AllReadyH.cons (List.getElem?_toArray.trans rfl) (fun K hK => ?_) AllReadyH.nil
              go_simp
              refine qhas_k _ _ ok _ (xs.take k) s.name (fun j h => Nat.lt_of_lt_of_le (HOK.out j h) (Nat.le_trans HB3.out.size hHeld.1.size)) (HP.out.below itmOk (HB3.out.trans (hHeld.1.mono HB3.out.size)) HOK.out) (by rw [List.length_take]; omega) ?_
              intro w4 g4
              rw [HDD.out]
              have yb := hHeld.1.trans (g4.mono hHeld.1.size)
              clear g4
              go_wp2_with fail
              refine hK.out _ _ (HK.out _ yb) (fun hHeld => ?_)
              clear hK K
              try simp only [Act.put, List.setIfInBounds_toArray, List.set_cons_zero, List.set_cons_succ]
              refine' wpAnyH_take (i := 6) (v := _) (List.getElem?_toArray.trans rfl) (by kernel_rfl) (by kernel_rfl) (by kernel_rfl) (fun _ _ _ h => h) (Or.inl ⟨by rfl, ?y6a⟩) hHeld ?r6a
              case y6a => intro w h; (try dsimp only at h); go_simp; (try with_reducible rfl)
              try simp only [Act.put, List.setIfInBounds_toArray, List.set_cons_zero, List.set_cons_succ]
              refine wpAnyH_done (by kernel_rfl) ?_ _
              go_wp2_with fail
              go_meet
              exact ⟨rfl, yb⟩
            obtain ⟨rfl, yb⟩ := hcut
            have HB5 := Lib.hid (HB3.out.trans (yb.mono HB3.out.size))
            have HO5 := Lib.hid (HO3.out.move itmOk (fun j hj _ => yb.block j hj) yb.size)
            have z0 := (HK.out _ yb).2
            have z1 := (Mod.of_below yb).cell' y1 (fun h => h)
            clear yb y0 y1
            cases d with
            | true =>
              have e0 : itmErr xs k = 25 := by rw [HE.out, ek, if_neg (by decide), if_neg (show ¬ s.n < 0 by omega), HD.out] <;> rfl
              have e1 := itmMake_bad (by omega) hlt HZ.out (by rw [e0]; decide)
              have hv := fun n => HR.out (.slice none 0 0) (wc.drewN n) (below_drewN HB5.out n) (by rw [e1]; exact SlR.nil)
              rw [e1, e0, HEs.out] at hv
              clear e1 e0 ek
              go_wp2_with fail
              go_quiet (fail)
              go_wp2_with fail
              exact hv _
            | false =>
              have e0 : itmErr xs k = 0 := by rw [HE.out, ek, if_neg (by decide), if_neg (show ¬ s.n < 0 by omega), HD.out]; rfl
              have HE0 := Lib.hid e0
              have HZ1 := Lib.hid (show ∀ j, j < k + 1 → itmErr xs j = 0 from fun j hj => by
                by_cases hjk2 : j < k
                · exact HZ.out j hjk2
                · obtain rfl : j = k := by omega
                  exact HE0.out)
              have htk : xs.take (k + 1) = xs.take k ++ [s] := by rw [List.take_succ_eq_append_getElem hlt, HEs.out]
              clear e0 ek
              by_cases h0 : 0 < s.n
              · have HF := Lib.hid (show (xs.take (k + 1)).filter nzI = (xs.take k).filter nzI ++ [s] by
                  rw [htk, List.filter_append, List.filter_cons_of_pos (show nzI s = true by unfold nzI; simp; omega), List.filter_nil])
                have hln2 : ((xs.take k).filter nzI).length ≤ 16 := Nat.le_trans (List.length_filter_le _ _) (by rw [List.length_take]; omega)
                clear htk
                go_wp2_with (at_builtin; refine append_k itmOk rfl _ _ 24 110 (.agg #[.string ⟨#[]⟩, .int .i64 0]) 24 w.heap.size (fun _ => False) rfl Tryz.underlying24 infoItm rfl (by decide) (by decide) u5 ((xs.take k).filter nzI) s #[.string s.name, .int .i64 s.n] rfl rfl ?c1 HO5.out rfl HB5.out.size ?c3 ?_)
                case c1 => first | exact ⟨rfl, rfl⟩ | (intro u hu; simp at hu; rcases hu with rfl | rfl <;> rfl)
                case c3 => omega
                intro v7 w7 hO7 hg7 _
                have HB7 := Lib.hid (HB5.out.grown hg7 HB5.out.size (fun j h => (HO5.out.own j h).1))
                have HO7 := Lib.hid (show OwnK itmK 2 110 w7 w.heap.size (fun _ => False) v7 ((xs.take (k + 1)).filter nzI) by rw [HF.out]; exact hO7)
                clear hO7 hg7 z0 z1
                go_wp2_with fail
                go_roundw
                case rel => exact ⟨k + 1, by omega, by go_num, HB7.out, HO7.out, HZ1.out⟩
                case measure => simp [intOf]; omega
              · have hf : (xs.take (k + 1)).filter nzI = (xs.take k).filter nzI := by
                  rw [htk, List.filter_append, List.filter_cons_of_neg (show ¬ nzI s = true by unfold nzI; simp; omega), List.filter_nil, List.append_nil]
                have HO7 := Lib.hid (show OwnK itmK 2 110 wc w.heap.size (fun _ => False) u5 ((xs.take (k + 1)).filter nzI) by rw [hf]; exact HO5.out)
                clear htk hf
                go_wp2_with fail
                go_roundw
                case rel => exact ⟨k + 1, by omega, by go_num, HB5.out, HO7.out, HZ1.out⟩
                case measure => simp [intOf]; omega
      · obtain rfl : k = xs.length := by omega
        have e1 := itmMake_ok (by omega) HZ.out
        have HE1 := Lib.hid e1
        have hd : Dist ltI xs := itmErr_dist HZ.out
        have hd2 : Dist ltI (xs.filter nzI) := hd.filter _
        have hs := SortOf.srt ordI (SortOf.filter (srt_of ordI hd) nzI)
        have HO9 := Lib.hid (show OwnK itmK 2 110 wr w.heap.size (fun _ => False) u5 (xs.filter nzI) by have := HO.out; rwa [List.take_length] at this)
        have hln2 : (xs.filter nzI).length ≤ 16 := Nat.le_trans (List.length_filter_le _ _) hln
        have HS9 := Lib.hid hs
        clear e1 hlt hk hs hd
        go_wp2_with fail
        refine sortI_k _ _ w.heap.size u5 (xs.filter nzI) HO9.out HB.out.size hd2 (by omega) ?_
        intro w3 g3 hs3
        rw [HS9.out] at hs3
        have hv := HR.out u5 w3 (HB.out.trans g3) (by rw [HE1.out]; exact hs3)
        rw [HE1.out] at hv
        clear g3 hs3 hd2
        go_wp2_with fail
        exact hv
end Go.Proofs.YtdceflgemhcgcaaGreatDoor
