/-
berthref09: Same.
Two that tell the same: the reference's lists are the same just if what is kept is. Plain Lean; no program.
What the questions of domain.Domains answer is what the reference answers. Plain Lean; no program.
domain.Same of any two, nil ones too.
-/
import Derived.Test.YtmenipaibjifiaaGreatDoorR43
import Derived.BigRegion
import Derived.Test.YtmenipaibjifiaaGreatDoorR27
import Derived.Deep.RegionHeld3
import Derived.Test.YtmenipaibjifiaaGreatDoorR26
set_option linter.unusedVariables false
set_option linter.unusedSimpArgs false
namespace Go.Proofs.YtmenipaibjifiaaGreatDoor
open Go.RowKit Go.BigFrame

theorem rnode_ext {a b : RNode} (h1 : a.slot = b.slot) (h2 : a.labels = b.labels) : a = b := by cases a; cases b; simp only at h1 h2; rw [h1, h2]
theorem rpod_ext {a b : RPod} (h1 : a.slot = b.slot) (h3 : a.on = b.on) (h2 : a.labels = b.labels) : a = b := by cases a; cases b; simp only at h1 h2 h3; rw [h1, h2, h3]
theorem take_next {α : Type} {l m : List α} {k : Nat} (h1 : k < l.length) (h2 : k < m.length) (h : l.take k = m.take k) (he : l[k]'h1 = m[k]'h2) : l.take (k + 1) = m.take (k + 1) := by
  rw [List.take_succ_eq_append_getElem h1, List.take_succ_eq_append_getElem h2, h, he]
set_option maxRecDepth 100000 in
set_option maxHeartbeats 8000000 in
theorem rsameD_k (R : Ending → World → Prop) (w : World) (ok : Nat → Prop) (d e : RDom) (cd ce : List Value) (hok : ∀ k, ok k → k < w.heap.size) (hd : rdomK w ok d cd) (he : rdomK w ok e ce) (Z : Sized d) (Ze : Sized e)
    (hR : ∀ w', Below w.heap.size w w' → R (.returned (.bool (decide (d = e)))) w') :
    Calls Tryz.prog 16 #[.agg cd.toArray, .agg ce.toArray] w R := by
  obtain ⟨vn, vp, rfl, hn, hp⟩ := hd
  obtain ⟨un, up, rfl, gn, gp⟩ := he
  have hB : Below w.heap.size w ((w.alloc (.cells #[vn, vp] 29)).alloc (.cells #[un, up] 29)) := Below.alloc (Below.alloc (Below.refl _ _) (Nat.le_refl _) _) (by simp) _
  have o0 : ((w.alloc (.cells #[vn, vp] 29)).alloc (.cells #[un, up] 29)).heap[w.heap.size]? = some (.cells #[vn, vp] 29) := heap_keep (heap_alloc_new _ _) _
  have o1 : ((w.alloc (.cells #[vn, vp] 29)).alloc (.cells #[un, up] 29)).heap[w.heap.size + 1]? = some (.cells #[un, up] 29) := by
    have := heap_alloc_new (w.alloc (.cells #[vn, vp] 29)) (.cells #[un, up] 29)
    rwa [World.size_alloc] at this
  have HN := Lib.hid (hn.below rnodeOk hB hok)
  have HP := Lib.hid (hp.below rpodOk hB hok)
  have GN := Lib.hid (gn.below rnodeOk hB hok)
  have GP := Lib.hid (gp.below rpodOk hB hok)
  obtain ⟨A, c, e1, hlc, _⟩ := hn.form
  subst e1
  obtain ⟨A2, c2, e2, hlc2, _⟩ := hp.form
  subst e2
  obtain ⟨A3, c3, e3, hlc3, _⟩ := gn.form
  subst e3
  obtain ⟨A4, c4, e4, hlc4, _⟩ := gp.form
  subst e4
  have HOK := Lib.hid (show ∀ k, ok k → k < ((w.alloc (.cells #[.slice A d.nodes.length c, .slice A2 d.pods.length c2] 29)).alloc (.cells #[.slice A3 e.nodes.length c3, .slice A4 e.pods.length c4] 29)).heap.size from fun k h => by have := hok k h; simp; omega)
  have HZ := Lib.hid Z
  have HZE := Lib.hid Ze
  have hzn := Z.n
  have hzp := Z.p
  have HR := Lib.hid hR
  clear hR hn hp gn gp hok Z Ze
  go_enter Tryz.func16, Tryz.ntmps16
  go_upto_region 1 with fail
  generalize hW0 : (w.alloc (.cells #[.slice A d.nodes.length c, .slice A2 d.pods.length c2] 29)).alloc (.cells #[.slice A3 e.nodes.length c3, .slice A4 e.pods.length c4] 29) = w0 at *
  clear hW0
  have q0 : w0.cell? ⟨w.heap.size, 0, none⟩ = some (.slice A d.nodes.length c) := cell_at o0 rfl
  have q1 : w0.cell? ⟨w.heap.size, 1, none⟩ = some (.slice A2 d.pods.length c2) := cell_at o0 rfl
  have q2 : w0.cell? ⟨w.heap.size + 1, 0, none⟩ = some (.slice A3 e.nodes.length c3) := cell_at o1 rfl
  have q3 : w0.cell? ⟨w.heap.size + 1, 1, none⟩ = some (.slice A4 e.pods.length c4) := cell_at o1 rfl
  clear o0 o1
  have HF := Lib.hid (show ∀ w', Below w0.heap.size w0 w' → d ≠ e → R (.returned (.bool false)) w' from fun w' h hne => by
    have := HR.out w' (hB.trans (h.mono hB.size))
    rwa [decide_eq_false hne] at this)
  by_cases hl1 : d.nodes.length ≠ e.nodes.length
  · have z1 : ((d.nodes.length : Int) != (e.nodes.length : Int)) = true := by simp; omega
    have hv := HF.out w0 (Below.refl _ _) (fun h => hl1 (by rw [h]))
    clear hl1
    go_wp2_with fail
    exact hv
  have hl1 : d.nodes.length = e.nodes.length := by omega
  have z1 : ((d.nodes.length : Int) != (e.nodes.length : Int)) = false := by simp; omega
  by_cases hl2 : d.pods.length ≠ e.pods.length
  · have z2 : ((d.pods.length : Int) != (e.pods.length : Int)) = true := by simp; omega
    have hv := HF.out w0 (Below.refl _ _) (fun h => hl2 (by rw [h]))
    clear hl2 hl1
    go_wp2_with fail
    exact hv
  have hl2 : d.pods.length = e.pods.length := by omega
  have z2 : ((d.pods.length : Int) != (e.pods.length : Int)) = false := by simp; omega
  have HL1 := Lib.hid hl1
  have HL2 := Lib.hid hl2
  clear hl1 hl2
  go_upto_block 0 with fail
  go_cut [5] (fun _ wr => Below w0.heap.size w0 wr ∧ d.nodes = e.nodes)
  case first =>
    have hB0 : Below w0.heap.size w0 w0 := Below.refl _ _
    go_wp2
    go_loopw [5] (fun i wr => ∃ k : Nat, k ≤ d.nodes.length ∧ i = .int .i64 k ∧ Below w0.heap.size w0 wr ∧ d.nodes.take k = e.nodes.take k) (fun i _ => d.nodes.length - (intOf i).toNat)
    case atStart => exact ⟨0, Nat.zero_le _, rfl, hB0, by simp⟩
    case round =>
      obtain ⟨k, hk, rfl, hBr, htk⟩ := hrel
      have hsr := hBr.size
      have r0 := (Mod.of_below hBr).cell' q0 (fun h => h)
      have r1 := (Mod.of_below hBr).cell' q2 (fun h => h)
      by_cases hkl : k < d.nodes.length
      · have hke : k < e.nodes.length := by have := HL1.out; omega
        have hn2 := HN.out.below rnodeOk hBr HOK.out
        have gn2 := GN.out.below rnodeOk hBr HOK.out
        obtain ⟨b, off, c', he, _, _, hbk, hbl, hce⟩ := hn2.addr (by omega)
        simp only [Value.slice.injEq] at he
        obtain ⟨rfl, -, rfl⟩ := he
        obtain ⟨b3, off3, c3', he3, _, _, hbk3, hbl3, hce3⟩ := gn2.addr (by omega)
        simp only [Value.slice.injEq] at he3
        obtain ⟨rfl, -, rfl⟩ := he3
        obtain ⟨v1, c0, c1, hv1⟩ := rnode_cells hce k hkl
        obtain ⟨v2, d0, d1, hv2⟩ := rnode_cells hce3 k hke
        have hxl : (d.nodes[k]'hkl).labels.length ≤ 32 := HZ.out.nl _ (List.getElem_mem hkl)
        have hyl : (e.nodes[k]'hke).labels.length ≤ 32 := HZE.out.nl _ (List.getElem_mem hke)
        have hne : (d.nodes[k]'hkl) ≠ (e.nodes[k]'hke) → d ≠ e := fun h1 h2 => by subst h2; exact h1 rfl
        have hnx : (d.nodes[k]'hkl) = (e.nodes[k]'hke) → d.nodes.take (k + 1) = e.nodes.take (k + 1) := take_next hkl hke htk
        obtain ⟨x, hx⟩ : ∃ x, d.nodes[k]'hkl = x := ⟨_, rfl⟩
        obtain ⟨y, hy⟩ : ∃ y, e.nodes[k]'hke = y := ⟨_, rfl⟩
        rw [hx] at c0 hv1 hxl hne hnx
        rw [hy] at d0 hv2 hyl hne hnx
        obtain ⟨sx, hsx⟩ : ∃ sx, x.slot = sx := ⟨_, rfl⟩
        obtain ⟨sy, hsy⟩ : ∃ sy, y.slot = sy := ⟨_, rfl⟩
        rw [hsx] at c0
        rw [hsy] at d0
        have HSX := Lib.hid hsx
        have HSY := Lib.hid hsy
        have HV1 := Lib.hid hv1
        have HV2 := Lib.hid hv2
        have HNE := Lib.hid hne
        have HNX := Lib.hid hnx
        have HBR := Lib.hid hBr
        have HOKr := Lib.hid (show ∀ j, ok j → j < wr.heap.size from fun j hj => Nat.lt_of_lt_of_le (HOK.out j hj) hsr)
        have HK := Lib.hid (show ∀ w', Below wr.heap.size wr w' → Below wr.heap.size wr w' ∧ w'.cell? ⟨w.heap.size, 0, none⟩ = some (.slice (some ⟨b, off, none⟩) d.nodes.length c) ∧ w'.cell? ⟨w.heap.size + 1, 0, none⟩ = some (.slice (some ⟨b3, off3, none⟩) e.nodes.length c3) ∧ w'.cell? ⟨b, off + k * 2 + 1, none⟩ = some v1 ∧ w'.cell? ⟨b3, off3 + k * 2 + 1, none⟩ = some v2 from
          fun w' hw => ⟨hw, (Mod.of_below hw).cell' r0 (fun h => h), (Mod.of_below hw).cell' r1 (fun h => h), (Mod.of_below hw).cell' c1 (fun h => h), (Mod.of_below hw).cell' d1 (fun h => h)⟩)
        clear hce hce3 hn2 gn2 hv1 hv2 hne hnx hBr hx hy hsx hsy htk
        go_wp2_with fail
        go_region_held3 (fun w' => Below wr.heap.size wr w' ∧ w'.cell? ⟨w.heap.size, 0, none⟩ = some (.slice (some ⟨b, off, none⟩) d.nodes.length c) ∧ w'.cell? ⟨w.heap.size + 1, 0, none⟩ = some (.slice (some ⟨b3, off3, none⟩) e.nodes.length c3) ∧ w'.cell? ⟨b, off + k * 2 + 1, none⟩ = some v1 ∧ w'.cell? ⟨b3, off3 + k * 2 + 1, none⟩ = some v2)
          (first
          | exact HK.out _ (Below.refl _ wr).drew
          | exact HK.out _ y1)
          (first
          | (go_at_call 69; refine rsame_k _ _ ok v1 v2 x.labels y.labels HOKr.out (SlK.move labOk HV1.out (fun _ _ => rfl)) (SlK.move labOk HV2.out (fun _ _ => rfl)) (by omega) (by omega) ?_; intro w3 g3
             have y1 : Below wr.heap.size wr w3 := Below.of_drew g3))
        all_goals (
          have r03 := (Mod.of_below y1).cell' r0 (fun h => h)
          have r13 := (Mod.of_below y1).cell' r1 (fun h => h)
          have c03 := (Mod.of_below y1).cell' c0 (fun h => h)
          have d03 := (Mod.of_below y1).cell' d0 (fun h => h)
          have HB3 := Lib.hid (HBR.out.trans (y1.mono hsr))
          clear y1 g3
          cases hlb : decide (x.labels = y.labels) with
          | false =>
            have hv := HF.out w3.drew HB3.out.drew (HNE.out (fun h => by rw [h] at hlb; simp at hlb))
            clear hlb
            cases t0 : (sx != sy) with
            | true =>
              go_wp2_with fail
              go_region
              all_goals go_wp2
              all_goals exact hv
            | false =>
              go_wp2_with fail
              go_region
              all_goals go_wp2
              all_goals exact hv
          | true =>
            have HLB := Lib.hid (of_decide_eq_true hlb)
            clear hlb
            cases t0 : (sx != sy) with
            | true =>
              have hv := HF.out w3.drew HB3.out.drew (HNE.out (fun h => by rw [← HSX.out, ← HSY.out, h] at t0; simp at t0))
              go_wp2_with fail
              go_region
              all_goals go_wp2
              all_goals exact hv
            | false =>
              have T0 := Lib.hid t0
              go_wp2_with fail
              go_region
              all_goals go_wp2
              all_goals
                go_roundw
                case rel => exact ⟨k + 1, by omega, by go_num, HB3.out.drew, HNX.out (rnode_ext (by rw [HSX.out, HSY.out]; simpa using T0.out) HLB.out)⟩
                case measure => simp [intOf]; omega)
      · obtain rfl : k = d.nodes.length := by omega
        have hall : d.nodes = e.nodes := by
          rw [List.take_length, HL1.out, List.take_length] at htk
          exact htk
        have HALL := Lib.hid hall
        have HBR := Lib.hid hBr
        clear hall hBr htk
        go_wp2
        go_meet
        exact ⟨HBR.out, HALL.out⟩
  case rest =>
    obtain ⟨hB0, hall0⟩ := hcut
    have HALL0 := Lib.hid hall0
    clear hall0
    go_wp2_with fail
    go_loopw [7] (fun i wr => ∃ k : Nat, k ≤ d.pods.length ∧ i = .int .i64 k ∧ Below w0.heap.size w0 wr ∧ d.pods.take k = e.pods.take k) (fun i _ => d.pods.length - (intOf i).toNat)
    case atStart => exact ⟨0, Nat.zero_le _, rfl, hB0, by simp⟩
    case round =>
      obtain ⟨k, hk, rfl, hBr, htk⟩ := hrel
      have hsr := hBr.size
      have r0 := (Mod.of_below hBr).cell' q1 (fun h => h)
      have r1 := (Mod.of_below hBr).cell' q3 (fun h => h)
      by_cases hkl : k < d.pods.length
      · have hke : k < e.pods.length := by have := HL2.out; omega
        have hn2 := HP.out.below rpodOk hBr HOK.out
        have gn2 := GP.out.below rpodOk hBr HOK.out
        obtain ⟨b, off, c', he, _, _, hbk, hbl, hce⟩ := hn2.addr (by omega)
        simp only [Value.slice.injEq] at he
        obtain ⟨rfl, -, rfl⟩ := he
        obtain ⟨b3, off3, c3', he3, _, _, hbk3, hbl3, hce3⟩ := gn2.addr (by omega)
        simp only [Value.slice.injEq] at he3
        obtain ⟨rfl, -, rfl⟩ := he3
        obtain ⟨v1, c0, c1, c2x, hv1⟩ := rpod_cells hce k hkl
        obtain ⟨v2, d0, d1, d2x, hv2⟩ := rpod_cells hce3 k hke
        have hxl : (d.pods[k]'hkl).labels.length ≤ 32 := HZ.out.pl _ (List.getElem_mem hkl)
        have hyl : (e.pods[k]'hke).labels.length ≤ 32 := HZE.out.pl _ (List.getElem_mem hke)
        have hne : (d.pods[k]'hkl) ≠ (e.pods[k]'hke) → d ≠ e := fun h1 h2 => by subst h2; exact h1 rfl
        have hnx : (d.pods[k]'hkl) = (e.pods[k]'hke) → d.pods.take (k + 1) = e.pods.take (k + 1) := take_next hkl hke htk
        obtain ⟨x, hx⟩ : ∃ x, d.pods[k]'hkl = x := ⟨_, rfl⟩
        obtain ⟨y, hy⟩ : ∃ y, e.pods[k]'hke = y := ⟨_, rfl⟩
        rw [hx] at c0 hv1 hxl hne hnx c1
        rw [hy] at d0 hv2 hyl hne hnx d1
        obtain ⟨sx, hsx⟩ : ∃ sx, x.slot = sx := ⟨_, rfl⟩
        obtain ⟨sy, hsy⟩ : ∃ sy, y.slot = sy := ⟨_, rfl⟩
        rw [hsx] at c0
        rw [hsy] at d0
        obtain ⟨ox, hox⟩ : ∃ ox, x.on = ox := ⟨_, rfl⟩
        obtain ⟨oy, hoy⟩ : ∃ oy, y.on = oy := ⟨_, rfl⟩
        rw [hox] at c1
        rw [hoy] at d1
        have HOX := Lib.hid hox
        have HOY := Lib.hid hoy
        clear hox hoy
        have HSX := Lib.hid hsx
        have HSY := Lib.hid hsy
        have HV1 := Lib.hid hv1
        have HV2 := Lib.hid hv2
        have HNE := Lib.hid hne
        have HNX := Lib.hid hnx
        have HBR := Lib.hid hBr
        have HOKr := Lib.hid (show ∀ j, ok j → j < wr.heap.size from fun j hj => Nat.lt_of_lt_of_le (HOK.out j hj) hsr)
        have HK := Lib.hid (show ∀ w', Below wr.heap.size wr w' → Below wr.heap.size wr w' ∧ w'.cell? ⟨w.heap.size, 1, none⟩ = some (.slice (some ⟨b, off, none⟩) d.pods.length c2) ∧ w'.cell? ⟨w.heap.size + 1, 1, none⟩ = some (.slice (some ⟨b3, off3, none⟩) e.pods.length c4) ∧ w'.cell? ⟨b, off + k * 3 + 2, none⟩ = some v1 ∧ w'.cell? ⟨b3, off3 + k * 3 + 2, none⟩ = some v2 from
          fun w' hw => ⟨hw, (Mod.of_below hw).cell' r0 (fun h => h), (Mod.of_below hw).cell' r1 (fun h => h), (Mod.of_below hw).cell' c2x (fun h => h), (Mod.of_below hw).cell' d2x (fun h => h)⟩)
        clear hce hce3 hn2 gn2 hv1 hv2 hne hnx hBr hx hy hsx hsy htk
        go_wp2_with fail
        go_region_held3 (fun w' => Below wr.heap.size wr w' ∧ w'.cell? ⟨w.heap.size, 1, none⟩ = some (.slice (some ⟨b, off, none⟩) d.pods.length c2) ∧ w'.cell? ⟨w.heap.size + 1, 1, none⟩ = some (.slice (some ⟨b3, off3, none⟩) e.pods.length c4) ∧ w'.cell? ⟨b, off + k * 3 + 2, none⟩ = some v1 ∧ w'.cell? ⟨b3, off3 + k * 3 + 2, none⟩ = some v2)
          (first
          | exact HK.out _ (Below.refl _ wr).drew
          | exact HK.out _ y1)
          (first
          | (go_at_call 69; refine rsame_k _ _ ok v1 v2 x.labels y.labels HOKr.out (SlK.move labOk HV1.out (fun _ _ => rfl)) (SlK.move labOk HV2.out (fun _ _ => rfl)) (by omega) (by omega) ?_; intro w3 g3
             have y1 : Below wr.heap.size wr w3 := Below.of_drew g3))
        all_goals (
          have r03 := (Mod.of_below y1).cell' r0 (fun h => h)
          have r13 := (Mod.of_below y1).cell' r1 (fun h => h)
          have c03 := (Mod.of_below y1).cell' c0 (fun h => h)
          have d03 := (Mod.of_below y1).cell' d0 (fun h => h)
          have c13 := (Mod.of_below y1).cell' c1 (fun h => h)
          have d13 := (Mod.of_below y1).cell' d1 (fun h => h)
          have HB3 := Lib.hid (HBR.out.trans (y1.mono hsr))
          clear y1 g3
          cases hlb : decide (x.labels = y.labels) with
          | false =>
            have hv := HF.out w3.drew HB3.out.drew (HNE.out (fun h => by rw [h] at hlb; simp at hlb))
            clear hlb
            cases t0 : (sx != sy) with
            | true =>
              go_wp2_with fail
              go_region
              all_goals go_wp2
              all_goals exact hv
            | false =>
              cases t1 : (ox != oy) with
              | true =>
                go_wp2_with fail
                go_region
                all_goals go_wp2
                all_goals exact hv
              | false =>
                go_wp2_with fail
                go_region
                all_goals go_wp2
                all_goals exact hv
          | true =>
            have HLB := Lib.hid (of_decide_eq_true hlb)
            clear hlb
            cases t0 : (sx != sy) with
            | true =>
              have hv := HF.out w3.drew HB3.out.drew (HNE.out (fun h => by rw [← HSX.out, ← HSY.out, h] at t0; simp at t0))
              go_wp2_with fail
              go_region
              all_goals go_wp2
              all_goals exact hv
            | false =>
              have T0 := Lib.hid t0
              cases t1 : (ox != oy) with
              | true =>
                have hv := HF.out w3.drew HB3.out.drew (HNE.out (fun h => by rw [← HOX.out, ← HOY.out, h] at t1; simp at t1))
                go_wp2_with fail
                go_region
                all_goals go_wp2
                all_goals exact hv
              | false =>
                have T1 := Lib.hid t1
                go_wp2_with fail
                go_region
                all_goals go_wp2
                all_goals
                  go_roundw
                  case rel => exact ⟨k + 1, by omega, by go_num, HB3.out.drew, HNX.out (rpod_ext (by rw [HSX.out, HSY.out]; simpa using T0.out) (by rw [HOX.out, HOY.out]; simpa using T1.out) HLB.out)⟩
                  case measure => simp [intOf]; omega)
      · obtain rfl : k = d.pods.length := by omega
        have hall : d.pods = e.pods := by
          rw [List.take_length, HL2.out, List.take_length] at htk
          exact htk
        have hv := HR.out wr (hB.trans (hBr.mono hB.size))
        rw [show decide (d = e) = true by
          have h1 := HALL0.out
          clear hv
          rw [decide_eq_true_eq]
          cases d; cases e; simp only at h1 hall; rw [h1, hall]] at hv
        clear hall hBr htk
        go_wp2_with fail
        exact hv
end Go.Proofs.YtmenipaibjifiaaGreatDoor

namespace Go.Proofs.YtmenipaibjifiaaGreatDoor
open Go.RowKit

section
variable {d e : RDom} {S V : St}
theorem Tells.sameD (T : Tells d S) (U : Tells e V) : ((∀ k, S.nodes k = V.nodes k) ∧ ∀ k, S.guests k = V.guests k) ↔ d = e := by
  constructor
  · rintro ⟨h1, h2⟩
    have hn : ∀ s x, rNodeAt d s = some x → rNodeAt e s = some x := fun s x hx => by
      have e1 := T.nodeAt hx
      have e2 := U.nodes s
      rw [← h1, e1.2.2] at e2
      cases hy : rNodeAt e s with
      | none => rw [hy] at e2; cases e2
      | some y =>
        rw [hy] at e2
        have e3 := U.nodeAt hy
        rw [rnode_ext (a := y) (b := x) (e3.2.1.trans e1.2.1.symm) (Option.some.inj e2).symm]
    have hn' : ∀ s x, rNodeAt e s = some x → rNodeAt d s = some x := fun s x hx => by
      have e1 := U.nodeAt hx
      have e2 := T.nodes s
      rw [h1, e1.2.2] at e2
      cases hy : rNodeAt d s with
      | none => rw [hy] at e2; cases e2
      | some y =>
        rw [hy] at e2
        have e3 := T.nodeAt hy
        rw [rnode_ext (a := y) (b := x) (e3.2.1.trans e1.2.1.symm) (Option.some.inj e2).symm]
    have hp : ∀ s x, rPodAt d s = some x → rPodAt e s = some x := fun s x hx => by
      have e1 := T.podAt hx
      have e2 := U.pods s
      rw [← h2, e1.2.2] at e2
      cases hy : rPodAt e s with
      | none => rw [hy] at e2; cases e2
      | some y =>
        rw [hy] at e2
        have e3 := U.podAt hy
        have e4 := Prod.mk.inj (Option.some.inj e2)
        rw [rpod_ext (a := y) (b := x) (e3.2.1.trans e1.2.1.symm) e4.2.symm e4.1.symm]
    have hp' : ∀ s x, rPodAt e s = some x → rPodAt d s = some x := fun s x hx => by
      have e1 := U.podAt hx
      have e2 := T.pods s
      rw [h2, e1.2.2] at e2
      cases hy : rPodAt d s with
      | none => rw [hy] at e2; cases e2
      | some y =>
        rw [hy] at e2
        have e3 := T.podAt hy
        have e4 := Prod.mk.inj (Option.some.inj e2)
        rw [rpod_ext (a := y) (b := x) (e3.2.1.trans e1.2.1.symm) e4.2.symm e4.1.symm]
    have l1 : d.nodes = e.nodes := rise_eq (r := fun a b : RNode => a.slot < b.slot) (fun a => Int.lt_irrefl _) (fun a b h1 h2 => by omega) T.ns U.ns (fun x => ⟨fun h => U.mem_node.2 (hn _ _ (T.mem_node.1 h)), fun h => T.mem_node.2 (hn' _ _ (U.mem_node.1 h))⟩)
    have l2 : d.pods = e.pods := rise_eq (r := fun a b : RPod => a.slot < b.slot) (fun a => Int.lt_irrefl _) (fun a b h1 h2 => by omega) T.ps U.ps (fun x => ⟨fun h => U.mem_pod.2 (hp _ _ (T.mem_pod.1 h)), fun h => T.mem_pod.2 (hp' _ _ (U.mem_pod.1 h))⟩)
    cases d; cases e
    simp only at l1 l2
    rw [l1, l2]
  · rintro rfl
    exact ⟨fun k => by rw [T.nodes, U.nodes], fun k => by rw [T.pods, U.pods]⟩
theorem Tells.empty_iff (T : Tells d S) : ((∀ k, S.nodes k = none) ∧ ∀ k, S.guests k = none) ↔ d.nodes = [] := by
  constructor
  · rintro ⟨h, _⟩
    cases hd : d.nodes with
    | nil => rfl
    | cons x r =>
      have := (T.node_of (x := x) (by rw [hd]; exact List.mem_cons_self)).1
      rw [h] at this; cases this
  · intro h
    have hn : ∀ k, S.nodes k = none := fun k => by
      rw [T.nodes]; unfold rNodeAt; rw [h]; rfl
    refine ⟨hn, fun p => ?_⟩
    cases hg : S.guests p with
    | none => rfl
    | some q =>
      obtain ⟨l, n⟩ := q
      have := (T.inv.gb _ _ _ hg).2.2.2
      rw [hn] at this; cases this
end
end Go.Proofs.YtmenipaibjifiaaGreatDoor

namespace Go.Proofs.YtmenipaibjifiaaGreatDoor
open Go.RowKit

section
variable {d : RDom} {S : St}
/-- T7: Count. -/
theorem Tells.guestL_eq (T : Tells d S) (s : Int) : guestL S s = ((rPodAt d s).map (·.labels)).getD [] := by
  unfold guestL
  rw [T.pods]
  cases rPodAt d s with
  | none => rfl
  | some x => rfl
theorem Tells.podHas (T : Tells d S) (pk pv : ByteArray) (s : Int) : podHas d pk pv s = Go.Proofs.YtmenipaibjifiaaGreatDoor.hasL (guestL S s) (pk, pv) := by
  rw [hasL_getB (T.inv.guest s), T.guestL_eq]
  unfold Go.Proofs.YtmenipaibjifiaaGreatDoor.podHas
  cases rPodAt d s with
  | none => simp [getB]
  | some x => rfl
theorem Tells.countQ (T : Tells d S) (key val pk pv : ByteArray) : (S.counts ((key, val), pk, pv)).getD 0 = (rCountN d key val pk pv : Int) := by
  rw [T.inv.a.cts, optNum_getD]
  refine congrArg (fun n : Nat => (n : Int)) ?_
  refine cnt_length ((rPodsL_rise T.ps key val).filter _) fun x => ?_
  rw [List.mem_filter, T.mem_podsL, T.podHas]
  simp only [Bool.and_eq_true]
  constructor
  · rintro ⟨⟨h1, h2, h3⟩, h4⟩
    exact ⟨h1, h2, h3, by rw [show ((x.toNat : Nat) : Int) = x by omega]; exact h4⟩
  · rintro ⟨h1, h2, h3, h4⟩
    exact ⟨⟨h1, h2, h3⟩, by rw [show ((x.toNat : Nat) : Int) = x by omega] at h4; exact h4⟩
/-- T2: Keys. -/
theorem Tells.values_some (T : Tells d S) (k : ByteArray) : (S.values k).isSome = true ↔ k ∈ d.nodes.flatMap (fun x => x.labels.map Lab.key) := by
  simp only [List.mem_flatMap, List.mem_map]
  constructor
  · intro h
    obtain ⟨g, hg⟩ := Option.isSome_iff_exists.1 h
    obtain ⟨⟨v, s, hs, h1⟩, _⟩ := T.inv.a.vyes k g hg
    unfold Go.Proofs.YtmenipaibjifiaaGreatDoor.hasL at h1
    simp only [decide_eq_true_eq] at h1
    rw [T.nodeL_eq] at h1
    cases e : rNodeAt d s with
    | none => rw [e] at h1; simp at h1
    | some x =>
      rw [e] at h1
      exact ⟨x, (T.nodeAt e).1, ⟨k, v⟩, h1, rfl⟩
  · rintro ⟨x, hx, l, hl, rfl⟩
    cases e : S.values l.key with
    | some g => rfl
    | none =>
      have h0 := T.node_of hx
      have h1 := T.inv.a.vno _ e l.val x.slot.toNat (by omega)
      rw [show ((x.slot.toNat : Nat) : Int) = x.slot by omega] at h1
      unfold nodeL at h1
      rw [h0.1] at h1
      unfold Go.Proofs.YtmenipaibjifiaaGreatDoor.hasL at h1
      simp only [Option.getD_some, decide_eq_false_iff_not] at h1
      exact absurd hl h1
theorem Tells.keysQ (T : Tells d S) {ks : List ByteArray} (hn : ks.Nodup) (hk : ∀ k, k ∈ ks ↔ (S.values k).isSome = true) : sortedK ks = rKeysL d :=
  sortedK_putAll hn fun x => (hk x).trans (T.values_some x)
/-- T3: Values. -/
theorem Tells.inner_cnt (T : Tells d S) (key v : ByteArray) : innerG S key v = optNum (rNodesL d.nodes key v).length := by
  rw [innerG_opt T.inv.a]
  refine congrArg optNum ?_
  refine cnt_length (rNodesL_rise T.ns key v) fun x => ?_
  rw [T.mem_nodesL]
  constructor
  · intro h
    have := T.rOf_lt h
    refine ⟨by omega, by omega, ?_⟩
    rw [T.hasL, show ((x.toNat : Nat) : Int) = x by omega]
    simpa using h
  · rintro ⟨h1, h2, h3⟩
    rw [T.hasL, show ((x.toNat : Nat) : Int) = x by omega] at h3
    simpa using h3
theorem optNum_some {c : Nat} : (optNum c).isSome = true ↔ 0 < c := by
  unfold optNum
  split <;> simp <;> omega
theorem Tells.inner_some (T : Tells d S) (key v : ByteArray) : (innerG S key v).isSome = true ↔ v ∈ d.nodes.filterMap (fun x => getB x.labels key) := by
  rw [T.inner_cnt, optNum_some, List.mem_filterMap, List.length_pos_iff_exists_mem]
  unfold rNodesL hasV
  simp only [List.mem_map, List.mem_filter, decide_eq_true_eq]
  constructor
  · rintro ⟨_, x, ⟨h1, h2⟩, rfl⟩; exact ⟨x, h1, h2⟩
  · rintro ⟨x, h1, h2⟩; exact ⟨_, x, ⟨h1, h2⟩, rfl⟩
theorem Tells.valL (T : Tells d S) {key : ByteArray} {ks : List ByteArray} (hn : ks.Nodup) (hk : ∀ k, k ∈ ks ↔ (innerG S key k).isSome = true) : sortedK ks = rValL d key :=
  sortedK_putAll hn fun x => (hk x).trans (T.inner_some key x)
theorem Tells.numV (T : Tells d S) (key v : ByteArray) : numV S key v = ((rNodesL d.nodes key v).length : Int) := by
  unfold Go.Proofs.YtmenipaibjifiaaGreatDoor.numV
  rw [T.inner_cnt, optNum_getD]
/-- rows as pairs -/
def rowP (r : RRow) : ByteArray × Int := (r.value, r.n)
theorem zip_map {α β : Type} (f : α → β) : ∀ l : List α, l.zip (l.map f) = l.map (fun x => (x, f x))
  | [] => rfl
  | a :: r => by simp [zip_map f r]
theorem Tells.valuesQ (T : Tells d S) {key : ByteArray} {ks : List ByteArray} (hn : ks.Nodup) (hk : ∀ k, k ∈ ks ↔ (innerG S key k).isSome = true) :
    (sortedK ks).zip ((sortedK ks).map (Go.Proofs.YtmenipaibjifiaaGreatDoor.numV S key)) = (rValuesL d key).map rowP := by
  rw [T.valL hn hk, zip_map]
  unfold rValuesL
  rw [List.map_map]
  refine List.map_congr_left fun v _ => ?_
  simp only [Function.comp, rowP, rRowV, T.numV]
/-- T8: Tally. -/
theorem marksW_length (l : List Int) : ∀ ws : List Nat, (l.foldl (addW 2048) ws).length = ws.length := by
  induction l with
  | nil => intro ws; rfl
  | cons a r ih => intro ws; rw [List.foldl_cons, ih, addW_length]
theorem marksW_mem (i : Nat) : ∀ (l : List Int) (ws : List Nat), ws.length = 32 → memW (l.foldl (addW 2048) ws) i = (memW ws i || (decide (i < 2048) && isIn l i)) := by
  intro l
  induction l with
  | nil => intro ws _; simp [isIn]
  | cons a r ih =>
    intro ws hw
    rw [List.foldl_cons, ih _ (by rw [addW_length]; exact hw)]
    have e1 : isIn (a :: r) i = (decide (a = i) || isIn r i) := rfl
    rw [e1]
    by_cases ha : 0 ≤ a ∧ a < 2048
    · obtain ⟨k, rfl⟩ : ∃ k : Nat, a = k := ⟨a.toNat, by omega⟩
      rw [memW_add (by rw [hw]) k i (by omega)]
      by_cases e : i = k
      · subst e
        have : i < 2048 := by omega
        simp [this]
      · have e2 : ¬ (k : Int) = (i : Int) := by omega
        simp [e, e2]
    · rw [memW_add_out a ha]
      by_cases hi : i < 2048
      · have e2 : ¬ a = (i : Int) := by omega
        simp [e2]
      · simp [hi]
theorem marksS_mem (l : List Int) (i : Nat) (hi : i < 2048) : memW (marksS l) i = isIn l i := by
  unfold marksS
  split
  · next h => subst h; rw [memW_nil]; rfl
  · unfold marksW
    rw [marksW_mem i l _ (by simp), memW_zero]
    simp [hi]
theorem mems_length_cnt (n : Nat) (ws : List Nat) : (mems n ws).length = cnt n (memW ws) := rfl
theorem cnt_false (n : Nat) : cnt n (fun _ => false) = 0 := cnt_zero.2 fun _ _ => rfl
theorem Tells.numT (T : Tells d S) (key : ByteArray) (l : List Int) (v : ByteArray) : numT S key (marksN l) (marksS l) v = (rNum d key l v : Int) := by
  have h1 : (rNum d key l v) = cnt 2048 (fun i => memW (setA S (key, v)).2.2 i && memW (marksS l) i) := by
    unfold rNum
    rw [← cnt_length (n := 2048) (p := fun i => memW (setA S (key, v)).2.2 i && memW (marksS l) i) (l := (rPodsL d d.pods key v).filter (isIn l)) ((rPodsL_rise T.ps key v).filter _)]
    intro x
    rw [List.mem_filter, T.mem_podsL]
    constructor
    · rintro ⟨⟨a1, a2, a3⟩, a4⟩
      refine ⟨a1, a2, ?_⟩
      show (memW (setA S (key, v)).2.2 x.toNat && memW (marksS l) x.toNat) = true
      rw [T.areaP key v _ (by omega), marksS_mem l _ (by omega), a3, show ((x.toNat : Nat) : Int) = x by omega, a4]; rfl
    · rintro ⟨a1, a2, a3⟩
      replace a3 : (memW (setA S (key, v)).2.2 x.toNat && memW (marksS l) x.toNat) = true := a3
      rw [T.areaP key v _ (by omega), marksS_mem l _ (by omega), show ((x.toNat : Nat) : Int) = x by omega, Bool.and_eq_true] at a3
      exact ⟨⟨a1, a2, a3.1⟩, a3.2⟩
  rw [h1]
  unfold Go.Proofs.YtmenipaibjifiaaGreatDoor.numT
  rw [mems_length_cnt]
  have hm : marksN l = 0 ∧ marksS l = [] ∨ marksN l = 2048 := by
    unfold marksN marksS
    split
    · exact .inl ⟨rfl, rfl⟩
    · exact .inr rfl
  have ha : (setA S (key, v)).2.1 = 0 ∧ (setA S (key, v)).2.2 = [] ∨ (setA S (key, v)).2.1 = 2048 := by
    unfold setA
    cases S.areas (key, v) with
    | none => exact .inl ⟨rfl, rfl⟩
    | some p => exact .inr rfl
  by_cases hmax : max (setA S (key, v)).2.1 (marksN l) = 2048
  · rw [hmax]
    refine congrArg _ (cnt_congr fun i hi => ?_)
    rw [memW_and _ _ _ _ (by omega)]
  · have hz : max (setA S (key, v)).2.1 (marksN l) = 0 := by
      rcases hm with ⟨h, _⟩ | h <;> rcases ha with ⟨h2, _⟩ | h2 <;> omega
    rw [hz]
    rcases ha with ⟨_, h2⟩ | h2
    · rw [h2]
      have : (fun i => memW [] i && memW (marksS l) i) = fun _ => false := by funext i; rw [memW_nil]; rfl
      rw [this, cnt_false]
      rfl
    · omega
theorem Tells.tallyQ (T : Tells d S) {key : ByteArray} {ks : List ByteArray} (hn : ks.Nodup) (hk : ∀ k, k ∈ ks ↔ (innerG S key k).isSome = true) (l : List Int) :
    (sortedK ks).zip ((sortedK ks).map (Go.Proofs.YtmenipaibjifiaaGreatDoor.numT S key (marksN l) (marksS l))) = (rTallyL d key l).map rowP := by
  rw [T.valL hn hk, zip_map, rTallyL_eq, List.map_map]
  refine List.map_congr_left fun v _ => ?_
  simp only [Function.comp, rowP, T.numT]
/-- T9: Ranked. -/
theorem zipW_len (f : Nat → Nat → Nat) (k : Nat) (x y : List Nat) : (zipW f k x y).length = k := by simp [zipW]
theorem rankF_mem (S : St) (key : ByteArray) (c n : Int) (m : Nat) (ps : List Nat) (i : Nat) (hi : i < 512) : ∀ (vs : List ByteArray) (ws : List Nat),
    memW (vs.foldl (rankOne S key c n m ps) ws) i = (memW ws i || vs.any fun v => standsB (Go.Proofs.YtmenipaibjifiaaGreatDoor.numT S key m ps v) c n && memW (setA S (key, v)).1.2 i) := by
  intro vs
  induction vs with
  | nil => intro ws; simp
  | cons v r ih =>
    intro ws
    rw [List.foldl_cons, ih, List.any_cons]
    unfold rankOne
    cases e : standsB (Go.Proofs.YtmenipaibjifiaaGreatDoor.numT S key m ps v) c n with
    | false => simp
    | true =>
      simp only [if_true]
      rw [memW_or _ _ _ _ (by omega)]
      simp [Bool.or_assoc]
theorem Tells.rankedQ (T : Tells d S) {key : ByteArray} {ks : List ByteArray} (hn : ks.Nodup) (hk : ∀ k, k ∈ ks ↔ (innerG S key k).isSome = true) (l : List Int) (c n : Int) :
    natI (mems 512 (rankF S key c n (marksN l) (marksS l) (sortedK ks))) = rRankedL d key l c n := by
  have hfil : rRankedL d key l c n = (d.nodes.filter (fun x => match getB x.labels key with | none => false | some v => standsB (rNum d key l v) c n)).map (·.slot) := by
    unfold rRankedL
    have hone : ∀ x ∈ d.nodes, rankRow (rTallyL d key l) key c n x = if (match getB x.labels key with | none => false | some v => standsB (rNum d key l v) c n) = true then [x.slot] else [] := by
      intro x hx
      unfold rankRow
      cases e : getB x.labels key with
      | none => rfl
      | some v =>
        simp only
        have hv : v ∈ rValL d key := by
          unfold rValL
          rw [mem_putAll]
          exact .inr (List.mem_filterMap.2 ⟨x, hx, e⟩)
        have hnd : (rValL d key).Nodup := by
          unfold rValL
          exact (rise_putAll (l := []) List.Pairwise.nil).imp fun h e => by subst e; exact ltL_irr _ h
        rw [rTallyL_eq, List.filter_map, List.map_map]
        have hnil : ∀ vs : List ByteArray, (v ∉ vs ∨ standsB (rNum d key l v) c n = false) → vs.filter ((fun r : RRow => decide (r.value = v) && standsB r.n c n) ∘ fun v => ⟨v, rNum d key l v⟩) = [] := by
          intro vs h
          rw [List.filter_eq_nil_iff]
          intro u hu
          simp only [Function.comp]
          by_cases e2 : u = v
          · subst e2
            rcases h with h | h
            · exact absurd hu h
            · simp [h]
          · simp [e2]
        have hone : standsB (rNum d key l v) c n = true → ∀ vs : List ByteArray, vs.Nodup → v ∈ vs → vs.filter ((fun r : RRow => decide (r.value = v) && standsB r.n c n) ∘ fun v => ⟨v, rNum d key l v⟩) = [v] := by
          intro hs vs
          induction vs with
          | nil => intro _ h; cases h
          | cons u r ih =>
            intro h hm
            rw [List.nodup_cons] at h
            by_cases e2 : u = v
            · subst e2
              rw [List.filter_cons_of_pos (by simp [Function.comp, hs]), hnil r (.inl h.1)]
            · rw [List.filter_cons_of_neg (by simp [Function.comp, e2])]
              rcases List.mem_cons.1 hm with e3 | e3
              · exact absurd e3.symm e2
              · exact ih h.2 e3
        by_cases hs : standsB (rNum d key l v) c n = true
        · rw [hone hs _ hnd hv, if_pos hs]; rfl
        · rw [hnil _ (.inr (by simpa using hs)), if_neg hs]; rfl
    have hgen : ∀ (q : RNode → Bool) (xs : List RNode), (∀ x ∈ xs, rankRow (rTallyL d key l) key c n x = if q x = true then [x.slot] else []) → xs.flatMap (rankRow (rTallyL d key l) key c n) = (xs.filter q).map (·.slot) := by
      intro q xs
      induction xs with
      | nil => intro _; rfl
      | cons x r ih =>
        intro h
        rw [List.flatMap_cons, h x List.mem_cons_self, ih (fun y hy => h y (List.mem_cons_of_mem _ hy)), List.filter_cons]
        split <;> simp
    exact hgen _ _ hone
  rw [hfil]
  refine rise_int (natI_mems_rise _ _) ?_ fun s => ?_
  · rw [List.pairwise_map]; exact T.ns.filter _
  · rw [mem_natI_mems]
    simp only [List.mem_map, List.mem_filter]
    have hmem : ∀ i : Nat, i < 512 → memW (rankF S key c n (marksN l) (marksS l) (sortedK ks)) i = match rOf d key i with | none => false | some v => standsB (rNum d key l v) c n := by
      intro i hi
      unfold rankF
      rw [rankF_mem _ _ _ _ _ _ i hi, memW_zero, Bool.false_or]
      cases e : rOf d key i with
      | none =>
        rw [List.any_eq_false]
        intro v _
        rw [T.areaN key v i hi, e]
        simp
      | some v =>
        simp only
        cases hs : standsB (rNum d key l v) c n with
        | false =>
          rw [List.any_eq_false]
          intro u _
          rw [T.areaN key u i hi, e, T.numT]
          by_cases e2 : u = v
          · subst e2; simp [hs]
          · have : v ≠ u := fun e => e2 e.symm
            simp [this]
        | true =>
          rw [List.any_eq_true]
          refine ⟨v, ?_, by rw [T.areaN key v i hi, e, T.numT, hs]; simp⟩
          rw [T.valL hn hk]
          unfold rValL
          rw [mem_putAll]
          refine .inr ?_
          unfold rOf at e
          obtain ⟨x, hx, h2⟩ := Option.bind_eq_some_iff.1 e
          exact List.mem_filterMap.2 ⟨x, (T.nodeAt hx).1, h2⟩
    constructor
    · rintro ⟨i, hi, h1, rfl⟩
      rw [hmem i hi] at h1
      cases e : rOf d key i with
      | none => rw [e] at h1; cases h1
      | some v =>
        rw [e] at h1
        unfold rOf at e
        obtain ⟨x, hx, h2⟩ := Option.bind_eq_some_iff.1 e
        obtain ⟨h3, h4, _⟩ := T.nodeAt hx
        exact ⟨x, ⟨h3, by rw [h2]; exact h1⟩, h4⟩
    · rintro ⟨x, ⟨h1, h2⟩, rfl⟩
      have h3 := T.node_of h1
      refine ⟨x.slot.toNat, by omega, ?_, by omega⟩
      rw [hmem _ (by omega), show ((x.slot.toNat : Nat) : Int) = x.slot by omega, T.rOf_node h1]
      exact h2
/-- T10: Same. -/
theorem Tells.same {d' : RDom} {S' : St} (T : Tells d S) (T' : Tells d' S') : (S.nodes = S'.nodes ∧ S.guests = S'.guests) ↔ d = d' := by
  constructor
  · rintro ⟨h1, h2⟩
    have hn : d.nodes = d'.nodes := by
      refine rise_eq (r := fun a b : RNode => a.slot < b.slot) (fun a => Int.lt_irrefl _) (fun a b h1 h2 => by omega) T.ns T'.ns fun x => ?_
      rw [T.mem_node, T'.mem_node]
      have e := congrFun h1 x.slot
      rw [T.nodes, T'.nodes] at e
      constructor
      · intro h
        rw [h] at e
        obtain ⟨y, hy, hl⟩ := Option.map_eq_some_iff.1 e.symm
        have h3 := (T'.nodeAt hy).2.1
        rw [hy]
        obtain ⟨ys, yl⟩ := y
        obtain ⟨xs, xl⟩ := x
        simp only at hl h3
        rw [hl, h3]
      · intro h
        rw [h] at e
        obtain ⟨y, hy, hl⟩ := Option.map_eq_some_iff.1 e
        have h3 := (T.nodeAt hy).2.1
        rw [hy]
        obtain ⟨ys, yl⟩ := y
        obtain ⟨xs, xl⟩ := x
        simp only at hl h3
        rw [hl, h3]
    have hp : d.pods = d'.pods := by
      refine rise_eq (r := fun a b : RPod => a.slot < b.slot) (fun a => Int.lt_irrefl _) (fun a b h1 h2 => by omega) T.ps T'.ps fun x => ?_
      rw [T.mem_pod, T'.mem_pod]
      have e := congrFun h2 x.slot
      rw [T.pods, T'.pods] at e
      constructor
      · intro h
        rw [h] at e
        obtain ⟨y, hy, hl⟩ := Option.map_eq_some_iff.1 e.symm
        have h3 := (T'.podAt hy).2.1
        rw [hy]
        obtain ⟨ys, yo, yl⟩ := y
        obtain ⟨xs, xo, xl⟩ := x
        simp only [Prod.mk.injEq] at hl h3
        rw [hl.1, hl.2, h3]
      · intro h
        rw [h] at e
        obtain ⟨y, hy, hl⟩ := Option.map_eq_some_iff.1 e
        have h3 := (T.podAt hy).2.1
        rw [hy]
        obtain ⟨ys, yo, yl⟩ := y
        obtain ⟨xs, xo, xl⟩ := x
        simp only [Prod.mk.injEq] at hl h3
        rw [hl.1, hl.2, h3]
    cases d; cases d'; simp only at hn hp; rw [hn, hp]
  · rintro rfl
    exact ⟨funext fun s => by rw [T.nodes, T'.nodes], funext fun s => by rw [T.pods, T'.pods]⟩
/-! ### what the questions ask of sizes -/
theorem chk_nodup {xs : List Lab} (h : (chk xs).2 = 0) : KeysNodup xs ∧ xs.length ≤ 32 := by
  have hl : xs.length ≤ 32 := by
    unfold chk at h
    split at h
    · cases h
    · omega
  refine ⟨?_, hl⟩
  unfold chk at h
  rw [if_neg (by omega)] at h
  have hall : ∀ j, j < xs.length → errAt xs j = 0 := by
    intro j
    induction j using Nat.strongRecOn with
    | ind j ih =>
      intro hj
      cases e : decide (errAt xs j = 0) with
      | true => simpa using e
      | false =>
        have e' : errAt xs j ≠ 0 := by simpa using e
        rw [chkFrom_err (Nat.zero_le j) (by omega) (fun i _ hi => ih i hi (by omega)) e'] at h
        exact absurd h e'
  have hstep : ∀ j (hj : j + 1 < xs.length), ltL (xs[j]'(by omega)).key (xs[j + 1]'hj).key := by
    intro j hj
    have := hall (j + 1) hj
    unfold errAt at this
    simp only [List.getD_eq_getElem?_getD, List.getElem?_eq_getElem hj, Nat.add_sub_cancel, List.getElem?_eq_getElem (show j < xs.length by omega), Option.getD_some] at this
    split at this
    · cases this
    · split at this
      · cases this
      · split at this
        · cases this
        · next h3 =>
          split at this
          · cases this
          · next h4 =>
            simp only [Nat.zero_lt_succ, true_and] at h3 h4
            exact ltL_tri h3 (fun e => h4 ((ltB_iff _ _).2 e))
  have hlt : ∀ k j (hj : j + (k + 1) < xs.length), ltL (xs[j]'(by omega)).key (xs[j + (k + 1)]'hj).key := by
    intro k
    induction k with
    | zero => intro j hj; exact hstep j hj
    | succ k ih =>
      intro j hj
      exact List.lt_trans (ih j (by omega)) (hstep (j + (k + 1)) (by omega))
  unfold KeysNodup
  unfold List.Nodup
  rw [List.pairwise_map, List.pairwise_iff_getElem]
  intro i j hi hj hij e
  have := hlt (j - i - 1) i (by omega)
  have e2 : i + (j - i - 1 + 1) = j := by omega
  simp only [e2] at this
  rw [e] at this
  exact ltL_irr _ this
/-- Each node has few labels, of short texts. -/
structure Fit (d : RDom) : Prop where
  nl : ∀ x ∈ d.nodes, x.labels.length ≤ 32 ∧ ∀ l ∈ x.labels, l.key.size ≤ 1048576 ∧ l.val.size ≤ 1048576
  pl : ∀ x ∈ d.pods, x.labels.length ≤ 32
theorem flat_len {α β : Type} (f : α → List β) (k : Nat) : ∀ l : List α, (∀ x ∈ l, (f x).length ≤ k) → (l.flatMap f).length ≤ l.length * k
  | [], _ => by simp
  | a :: r, h => by
    rw [List.flatMap_cons, List.length_append, List.length_cons, Nat.add_mul]
    have h1 := h a List.mem_cons_self
    have h2 := flat_len f k r (fun x hx => h x (List.mem_cons_of_mem _ hx))
    omega
theorem Tells.keys_num (T : Tells d S) (F : Fit d) {ks : List ByteArray} (hn : ks.Nodup) (hk : ∀ k, k ∈ ks → (S.values k).isSome = true) : ks.length ≤ 1048576 := by
  have h1 := hn.length_le_of_subset (l₂ := d.nodes.flatMap (fun x => x.labels.map Lab.key)) fun k h => (T.values_some k).1 (hk k h)
  have h2 := flat_len (fun x : RNode => x.labels.map Lab.key) 32 d.nodes (fun x hx => by rw [List.length_map]; exact (F.nl x hx).1)
  have := T.nodes_len
  omega
theorem Tells.vals_num (T : Tells d S) {key : ByteArray} {ks : List ByteArray} (hn : ks.Nodup) (hk : ∀ k, k ∈ ks → (innerG S key k).isSome = true) : ks.length ≤ 1048576 := by
  have h1 := hn.length_le_of_subset (l₂ := d.nodes.filterMap (fun x => getB x.labels key)) fun k h => (T.inner_some key k).1 (hk k h)
  have h2 := List.length_filterMap_le (fun x : RNode => getB x.labels key) d.nodes
  have := T.nodes_len
  omega
theorem Tells.key_size (T : Tells d S) (F : Fit d) {k : ByteArray} (h : (S.values k).isSome = true) : k.size ≤ 1048576 := by
  obtain ⟨x, hx, hl⟩ := List.mem_flatMap.1 ((T.values_some k).1 h)
  obtain ⟨l, hl2, rfl⟩ := List.mem_map.1 hl
  exact ((F.nl x hx).2 l hl2).1
theorem getB_mem {ls : List Lab} {k v : ByteArray} (h : getB ls k = some v) : (⟨k, v⟩ : Lab) ∈ ls := by
  unfold getB at h
  obtain ⟨l, hl, rfl⟩ := Option.map_eq_some_iff.1 h
  have h1 := List.mem_of_find?_eq_some hl
  have h2 := List.find?_some hl
  simp only [decide_eq_true_eq] at h2
  rw [← h2]; exact h1
theorem Tells.val_size (T : Tells d S) (F : Fit d) {key v : ByteArray} (h : (innerG S key v).isSome = true) : v.size ≤ 1048576 := by
  obtain ⟨x, hx, hl⟩ := List.mem_filterMap.1 ((T.inner_some key v).1 h)
  exact ((F.nl x hx).2 _ (getB_mem hl)).2
end
end Go.Proofs.YtmenipaibjifiaaGreatDoor

namespace Go.Proofs.YtmenipaibjifiaaGreatDoor
open Go.RowKit Go.BigFrame

/-- The lists of labels that are kept are short. -/
def ShortS (S : St) : Prop := (∀ k l, S.nodes k = some l → l.length ≤ 1073741824) ∧ ∀ k p, S.guests k = some p → p.1.length ≤ 1073741824
theorem ShortS.empty : ShortS St.empty := ⟨fun _ _ h => (by cases h), fun _ _ h => (by cases h)⟩
theorem ShortS.of {d : RDom} {S : St} (T : Tells d S) (F : Fit d) : ShortS S := by
  constructor
  · intro k l h
    rw [T.nodes] at h
    cases e : rNodeAt d k with
    | none => rw [e] at h; cases h
    | some x =>
      rw [e] at h
      have := (F.nl x (T.nodeAt e).1).1
      rw [← Option.some.inj h]
      simp only at this ⊢
      omega
  · intro k p h
    rw [T.pods] at h
    cases e : rPodAt d k with
    | none => rw [e] at h; cases h
    | some x =>
      rw [e] at h
      have := F.pl x (T.podAt e).1
      rw [← Option.some.inj h]
      simp only at this ⊢
      omega
/-- What domain.Same says. -/
def sameQ (S T : St) : Prop := (∀ k, S.nodes k = T.nodes k) ∧ ∀ k, S.guests k = T.guests k
theorem DomAt.ln {w : World} {h : Hdr} {own : Own'} {S : St} (D : DomAt w h own S) : FMap (Value.int .i64) w h.n (fun _ v l => Labs w (fun k => k < w.heap.size) v l) S.nodes :=
  D.fn.move rfl (fun _ _ _ hl => SlK.mono labOk (SlK.bnd labOk hl) (fun k hk => hk.2))
theorem DomAt.lg {w : World} {h : Hdr} {own : Own'} {S : St} (D : DomAt w h own S) : FMap (Value.int .i64) w h.g (fun _ v l => ∃ u, v = .agg #[u, .int .i64 l.2] ∧ Labs w (fun k => k < w.heap.size) u l.1) S.guests :=
  D.fg.move rfl (fun _ _ _ hl => by
    obtain ⟨u, e, hu⟩ := hl
    exact ⟨u, e, SlK.mono labOk (SlK.bnd labOk hu) (fun k hk => hk.2)⟩)
theorem eqfA_q (R : Ending → World → Prop) (w : World) (ha hb : Hdr) (owna ownb : Own') (S T : St) (DA : DomAt w ha owna S) (DB : DomAt w hb ownb T) (zS : ShortS S) (zT : ShortS T) (q : Bool) (hq : q = true ↔ ∀ k, S.nodes k = T.nodes k)
    (hR : ∀ w', Below w.heap.size w w' → R (.returned (.bool q)) w') :
    Calls Tryz.prog 70 #[.map (some ha.n), .map (some hb.n), .func (.func 71) #[] #[]] w R :=
  eqfA_g R w (fun k => k < w.heap.size) ha.n hb.n S.nodes T.nodes DA.ln DB.ln (fun _ h => h) zS.1 zT.1 (fun q' w' g h => by
    obtain rfl : q' = q := by
      cases q' <;> cases q <;> simp_all
    exact hR w' g)
theorem eqfB_q (R : Ending → World → Prop) (w : World) (ha hb : Hdr) (owna ownb : Own') (S T : St) (DA : DomAt w ha owna S) (DB : DomAt w hb ownb T) (zS : ShortS S) (zT : ShortS T) (q : Bool) (hq : q = true ↔ ∀ k, S.guests k = T.guests k)
    (hR : ∀ w', Below w.heap.size w w' → R (.returned (.bool q)) w') :
    Calls Tryz.prog 72 #[.map (some ha.g), .map (some hb.g), .func (.func 73) #[] #[]] w R :=
  eqfB_g R w (fun k => k < w.heap.size) ha.g hb.g S.guests T.guests DA.lg DB.lg (fun _ h => h) zS.2 zT.2 (fun q' w' g h => by
    obtain rfl : q' = q := by
      cases q' <;> cases q <;> simp_all
    exact hR w' g)
/-- The Domains at an argument: S; nil: an empty one. -/
def DomV (w : World) (v : Value) (S : St) : Prop := (∃ h own, v = .pointer (some ⟨h.d, 0, none⟩) ∧ DomAt w h own S) ∨ (v = .pointer none ∧ S = St.empty)
theorem DomV.below {w w' : World} {v : Value} {S : St} (h : DomV w v S) (hb : Below w.heap.size w w') : DomV w' v S := by
  rcases h with ⟨h, own, e, D⟩ | h
  · exact .inl ⟨h, own, e, D.below hb⟩
  · exact .inr h
set_option maxRecDepth 100000 in
set_option maxHeartbeats 8000000 in
theorem same_pp (R : Ending → World → Prop) (w : World) (S T : St) (ha : Hdr) (owna : Own') (DA0 : DomAt w ha owna S) (hb : Hdr) (ownb : Own') (DB0 : DomAt w hb ownb T) (zS : ShortS S) (zT : ShortS T) (hR : ∀ q w', Below w.heap.size w w' → (q = true ↔ sameQ S T) → R (.returned (.bool q)) w') :
    Calls Tryz.prog 17 #[.pointer (some ⟨ha.d, 0, none⟩), .pointer (some ⟨hb.d, 0, none⟩)] w R := by
  have HR := Lib.hid hR
  obtain ⟨q1, hq1⟩ : ∃ q : Bool, q = true ↔ ∀ k, S.nodes k = T.nodes k := by
    by_cases h : ∀ k, S.nodes k = T.nodes k
    · exact ⟨true, by simpa using h⟩
    · exact ⟨false, by simpa using h⟩
  obtain ⟨q2, hq2⟩ : ∃ q : Bool, q = true ↔ ∀ k, S.guests k = T.guests k := by
    by_cases h : ∀ k, S.guests k = T.guests k
    · exact ⟨true, by simpa using h⟩
    · exact ⟨false, by simpa using h⟩
  have HQ1 := Lib.hid hq1
  have HQB := Lib.hid hq2
  have HZS := Lib.hid zS
  have HZT := Lib.hid zT
  clear hR hq1 hq2 zS zT
  have DA := Lib.hid DA0
  clear DA0
  have DB := Lib.hid DB0
  clear DB0
  go_enter Tryz.func17, Tryz.ntmps17
  have HB := Lib.hid (Below.refl w.heap.size w)
  have x1 : w.cell? ⟨ha.d, 0, none⟩ = some (.map (some ha.n)) := cell_at DA.out.hd rfl
  have x2 : w.cell? ⟨hb.d, 0, none⟩ = some (.map (some hb.n)) := cell_at DB.out.hd rfl
  have x3 : w.cell? ⟨ha.d, 1, none⟩ = some (.map (some ha.g)) := cell_at DA.out.hd rfl
  have x4 : w.cell? ⟨hb.d, 1, none⟩ = some (.map (some hb.g)) := cell_at DB.out.hd rfl
  have HK := Lib.hid (show ∀ w', Below w.heap.size w w' → Below w.heap.size w w' ∧ w'.cell? ⟨ha.d, 0, none⟩ = some (.map (some ha.n)) ∧ w'.cell? ⟨hb.d, 0, none⟩ = some (.map (some hb.n)) ∧ w'.cell? ⟨ha.d, 1, none⟩ = some (.map (some ha.g)) ∧ w'.cell? ⟨hb.d, 1, none⟩ = some (.map (some hb.g)) from
    fun w' hw => ⟨hw, (Mod.of_below hw).cell' x1 (fun h => h), (Mod.of_below hw).cell' x2 (fun h => h), (Mod.of_below hw).cell' x3 (fun h => h), (Mod.of_below hw).cell' x4 (fun h => h)⟩)
  clear x1 x2 x3 x4
  have YA := Lib.hid (Below.refl w.heap.size w).drew
  have DA2 := Lib.hid (DA.out.below YA.out)
  have DB2 := Lib.hid (DB.out.below YA.out)
  cases q1 with
  | false =>
    have HV := Lib.hid (show ∀ w', Below w.heap.size w w' → R (.returned (.bool false)) w' from fun w' g => HR.out false w' (HB.out.trans (g.mono HB.out.size)) ⟨fun h => (by cases h), fun h => HQ1.out.2 h.1⟩)
    go_wp2_with fail
    refine wp_region_held_drew (S := fun w' => Below w.heap.size w w' ∧ w'.cell? ⟨ha.d, 0, none⟩ = some (.map (some ha.n)) ∧ w'.cell? ⟨hb.d, 0, none⟩ = some (.map (some hb.n)) ∧ w'.cell? ⟨ha.d, 1, none⟩ = some (.map (some ha.g)) ∧ w'.cell? ⟨hb.d, 1, none⟩ = some (.map (some hb.g))) (by kernel_rfl) (HK.out _ YA.out) (fun hHeld => ?_)
    refine' wpAnyH_take (i := 0) (v := _) (List.getElem?_toArray.trans rfl) (by kernel_rfl) (by kernel_rfl) (by kernel_rfl) (fun _ _ _ h => h) (Or.inl ⟨by rfl, ?y0⟩) hHeld ?r0
    case y0 =>
      intro w hSw
      try dsimp only at hSw
      go_simp
      try with_reducible rfl
    try simp only [Act.put, List.setIfInBounds_toArray, List.set_cons_zero, List.set_cons_succ]
    refine' wpAnyH_take (i := 1) (v := _) (List.getElem?_toArray.trans rfl) (by kernel_rfl) (by kernel_rfl) (by kernel_rfl) (fun _ _ _ h => h) (Or.inl ⟨by rfl, ?y1⟩) hHeld ?r1
    case y1 =>
      intro w hSw
      try dsimp only at hSw
      go_simp
      try with_reducible rfl
    try simp only [Act.put, List.setIfInBounds_toArray, List.set_cons_zero, List.set_cons_succ]
    refine' wpAnyH_take (i := 2) (v := _) (List.getElem?_toArray.trans rfl) (by kernel_rfl) (by kernel_rfl) (by kernel_rfl) (fun _ _ _ h => h) (Or.inl ⟨by rfl, ?y2⟩) hHeld ?r2
    case y2 =>
      intro w hSw
      try dsimp only at hSw
      go_simp
      try with_reducible rfl
    try simp only [Act.put, List.setIfInBounds_toArray, List.set_cons_zero, List.set_cons_succ]
    refine' wpAnyH_take (i := 3) (v := _) (List.getElem?_toArray.trans rfl) (by kernel_rfl) (by kernel_rfl) (by kernel_rfl) (fun _ _ _ h => h) (Or.inl ⟨by rfl, ?y3⟩) hHeld ?r3
    case y3 =>
      intro w hSw
      try dsimp only at hSw
      go_simp
      try with_reducible rfl
    try simp only [Act.put, List.setIfInBounds_toArray, List.set_cons_zero, List.set_cons_succ]
    refine' wpAnyH_take (i := 4) (v := _) (List.getElem?_toArray.trans rfl) (by kernel_rfl) (by kernel_rfl) (by kernel_rfl) (fun _ _ _ h => h) (Or.inl ⟨by rfl, ?y4⟩) hHeld ?r4
    case y4 =>
      intro w hSw
      try dsimp only at hSw
      go_simp
      try with_reducible rfl
    try simp only [Act.put, List.setIfInBounds_toArray, List.set_cons_zero, List.set_cons_succ]
    refine' wpAnyH_take (i := 5) (v := _) (List.getElem?_toArray.trans rfl) (by kernel_rfl) (by kernel_rfl) (by kernel_rfl) (fun _ _ _ h => h) (Or.inl ⟨by rfl, ?y5⟩) hHeld ?r5
    case y5 =>
      intro w hSw
      try dsimp only at hSw
      go_simp
      try with_reducible rfl
    try simp only [Act.put, List.setIfInBounds_toArray, List.set_cons_zero, List.set_cons_succ]
    refine' wpAnyH_take (i := 6) (v := _) (List.getElem?_toArray.trans rfl) (by kernel_rfl) (by kernel_rfl) (by kernel_rfl) (fun _ _ _ h => h) (Or.inl ⟨by rfl, ?y6⟩) hHeld ?r6
    case y6 =>
      intro w hSw
      try dsimp only at hSw
      go_simp
      try with_reducible rfl
    try simp only [Act.put, List.setIfInBounds_toArray, List.set_cons_zero, List.set_cons_succ]
    refine' wpAnyH_take (i := 7) (v := _) (List.getElem?_toArray.trans rfl) (by kernel_rfl) (by kernel_rfl) (by kernel_rfl) (fun _ _ _ h => h) (Or.inl ⟨by rfl, ?y7⟩) hHeld ?r7
    case y7 =>
      intro w hSw
      try dsimp only at hSw
      go_simp
      try with_reducible rfl
    try simp only [Act.put, List.setIfInBounds_toArray, List.set_cons_zero, List.set_cons_succ]
    refine wpAnyH_ready (rs := [8]) (by kernel_rfl) (by simp) ?_
    refine AllReadyH.cons rfl (fun K hK => ?_) AllReadyH.nil
    go_simp
    go_at_call 70
    refine eqfA_q _ _ ha hb owna ownb S T DA2.out DB2.out HZS.out HZT.out false HQ1.out ?_
    intro w3 g3
    have y1 : Below w.heap.size w w3 := Below.of_drew g3
    go_wp2_with fail
    refine hK.out _ _ (HK.out _ y1) (fun hHeld => ?_)
    clear hK K
    try simp only [Act.put, List.setIfInBounds_toArray, List.set_cons_zero, List.set_cons_succ]
    refine' wpAnyH_take (i := 9) (v := _) (List.getElem?_toArray.trans rfl) (by kernel_rfl) (by kernel_rfl) (by kernel_rfl) (fun _ _ _ h => h) (Or.inl ⟨by rfl, ?y9⟩) hHeld ?r9
    case y9 =>
      intro w hSw
      try dsimp only at hSw
      go_simp
      try with_reducible rfl
    try simp only [Act.put, List.setIfInBounds_toArray, List.set_cons_zero, List.set_cons_succ]
    refine wpAnyH_take (i := 10) (v := undef) (List.getElem?_toArray.trans rfl) (by kernel_rfl) (by kernel_rfl) (by kernel_rfl) (fun _ _ _ h => h) (Or.inr ⟨by rfl, rfl⟩) hHeld ?_
    try simp only [Act.put, List.setIfInBounds_toArray, List.set_cons_zero, List.set_cons_succ]
    refine wpAnyH_take (i := 11) (v := undef) (List.getElem?_toArray.trans rfl) (by kernel_rfl) (by kernel_rfl) (by kernel_rfl) (fun _ _ _ h => h) (Or.inr ⟨by rfl, rfl⟩) hHeld ?_
    try simp only [Act.put, List.setIfInBounds_toArray, List.set_cons_zero, List.set_cons_succ]
    refine wpAnyH_take (i := 12) (v := undef) (List.getElem?_toArray.trans rfl) (by kernel_rfl) (by kernel_rfl) (by kernel_rfl) (fun _ _ _ h => h) (Or.inr ⟨by rfl, rfl⟩) hHeld ?_
    try simp only [Act.put, List.setIfInBounds_toArray, List.set_cons_zero, List.set_cons_succ]
    refine wpAnyH_take (i := 13) (v := undef) (List.getElem?_toArray.trans rfl) (by kernel_rfl) (by kernel_rfl) (by kernel_rfl) (fun _ _ _ h => h) (Or.inr ⟨by rfl, rfl⟩) hHeld ?_
    try simp only [Act.put, List.setIfInBounds_toArray, List.set_cons_zero, List.set_cons_succ]
    refine wpAnyH_take (i := 14) (v := undef) (List.getElem?_toArray.trans rfl) (by kernel_rfl) (by kernel_rfl) (by kernel_rfl) (fun _ _ _ h => h) (Or.inr ⟨by rfl, rfl⟩) hHeld ?_
    try simp only [Act.put, List.setIfInBounds_toArray, List.set_cons_zero, List.set_cons_succ]
    refine wpAnyH_take (i := 15) (v := undef) (List.getElem?_toArray.trans rfl) (by kernel_rfl) (by kernel_rfl) (by kernel_rfl) (fun _ _ _ h => h) (Or.inr ⟨by rfl, rfl⟩) hHeld ?_
    try simp only [Act.put, List.setIfInBounds_toArray, List.set_cons_zero, List.set_cons_succ]
    refine wpAnyH_take (i := 16) (v := undef) (List.getElem?_toArray.trans rfl) (by kernel_rfl) (by kernel_rfl) (by kernel_rfl) (fun _ _ _ h => h) (Or.inr ⟨by rfl, rfl⟩) hHeld ?_
    try simp only [Act.put, List.setIfInBounds_toArray, List.set_cons_zero, List.set_cons_succ]
    refine wpAnyH_take (i := 17) (v := undef) (List.getElem?_toArray.trans rfl) (by kernel_rfl) (by kernel_rfl) (by kernel_rfl) (fun _ _ _ h => h) (Or.inr ⟨by rfl, rfl⟩) hHeld ?_
    try simp only [Act.put, List.setIfInBounds_toArray, List.set_cons_zero, List.set_cons_succ]
    refine wpAnyH_take (i := 18) (v := undef) (List.getElem?_toArray.trans rfl) (by kernel_rfl) (by kernel_rfl) (by kernel_rfl) (fun _ _ _ h => h) (Or.inr ⟨by rfl, rfl⟩) hHeld ?_
    try simp only [Act.put, List.setIfInBounds_toArray, List.set_cons_zero, List.set_cons_succ]
    refine' wpAnyH_take (i := 19) (v := _) (List.getElem?_toArray.trans rfl) (by kernel_rfl) (by kernel_rfl) (by kernel_rfl) (fun _ _ _ h => h) (Or.inl ⟨by rfl, ?y19⟩) hHeld ?r19
    case y19 =>
      intro w hSw
      try dsimp only at hSw
      go_simp
      try with_reducible rfl
    try simp only [Act.put, List.setIfInBounds_toArray, List.set_cons_zero, List.set_cons_succ]
    refine' wpAnyH_take (i := 20) (v := _) (List.getElem?_toArray.trans rfl) (by kernel_rfl) (by kernel_rfl) (by kernel_rfl) (fun _ _ _ h => h) (Or.inl ⟨by rfl, ?y20⟩) hHeld ?r20
    case y20 =>
      intro w hSw
      try dsimp only at hSw
      go_simp
      try with_reducible rfl
    try simp only [Act.put, List.setIfInBounds_toArray, List.set_cons_zero, List.set_cons_succ]
    refine wpAnyH_done (by kernel_rfl) ?_ _
    have hv := HV.out _ y1
    go_wp2_with fail
    exact hv
  | true =>
    have HALL := Lib.hid (HQ1.out.1 rfl)
    have HQ2 := Lib.hid (show q2 = true ↔ sameQ S T from ⟨fun h => ⟨HQ1.out.1 rfl, HQB.out.1 h⟩, fun h => HQB.out.2 h.2⟩)
    have HV := Lib.hid (show ∀ w', Below w.heap.size w w' → R (.returned (.bool q2)) w' from fun w' g => HR.out q2 w' (HB.out.trans (g.mono HB.out.size)) HQ2.out)
    go_wp2_with fail
    go_region_held3 (fun w' => Below w.heap.size w w' ∧ w'.cell? ⟨ha.d, 0, none⟩ = some (.map (some ha.n)) ∧ w'.cell? ⟨hb.d, 0, none⟩ = some (.map (some hb.n)) ∧ w'.cell? ⟨ha.d, 1, none⟩ = some (.map (some ha.g)) ∧ w'.cell? ⟨hb.d, 1, none⟩ = some (.map (some hb.g)))
      (first
      | exact HK.out _ YA.out
      | exact HK.out _ y2
      | exact HK.out _ y1)
      (first
      | (go_at_call 72; refine eqfB_q _ _ ha hb owna ownb S T (DA.out.below y1) (DB.out.below y1) HZS.out HZT.out q2 HQB.out ?_; intro w4 g4
         have y2 : Below w.heap.size w w4 := y1.trans (g4.mono y1.size))
      | (go_at_call 70; refine eqfA_q _ _ ha hb owna ownb S T DA2.out DB2.out HZS.out HZT.out true ⟨fun _ => HALL.out, fun _ => rfl⟩ ?_; intro w3 g3
         have y1 : Below w.heap.size w w3 := Below.of_drew g3))
    all_goals (
      have hv := HV.out _ y2
      go_wp2_with fail
      exact hv)
theorem sameQ.refl (S : St) : true = true ↔ sameQ S S := ⟨fun _ => ⟨fun _ => rfl, fun _ => rfl⟩, fun _ => rfl⟩
theorem same_q (R : Ending → World → Prop) (w : World) (S T : St) (ha : Hdr) (owna : Own') (DA : DomAt w ha owna S) (hb : Hdr) (ownb : Own') (DB : DomAt w hb ownb T) (zS : ShortS S) (zT : ShortS T) (q : Bool) (hq : q = true ↔ sameQ S T)
    (hR : ∀ w', Below w.heap.size w w' → R (.returned (.bool q)) w') :
    Calls Tryz.prog 17 #[.pointer (some ⟨ha.d, 0, none⟩), .pointer (some ⟨hb.d, 0, none⟩)] w R :=
  same_pp R w S T ha owna DA hb ownb DB zS zT fun q' w' g h => by
    obtain rfl : q' = q := by
      cases q' <;> cases q <;> simp_all
    exact hR w' g
end Go.Proofs.YtmenipaibjifiaaGreatDoor
