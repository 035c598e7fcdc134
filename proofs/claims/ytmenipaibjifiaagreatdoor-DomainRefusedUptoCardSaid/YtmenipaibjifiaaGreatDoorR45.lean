/-
berthref09: Count, Tally.
berthref09: Ranked, Near.
berthlaw09: a question; what a Domains answers to each, as contracts; rows.
-/
import Derived.Test.YtmenipaibjifiaaGreatDoorR43
import Derived.Test.YtmenipaibjifiaaGreatDoorR44
import Derived.Test.YtmenipaibjifiaaGreatDoorR37
import Derived.Test.YtmenipaibjifiaaGreatDoorR25
set_option linter.unusedVariables false
set_option linter.unusedSimpArgs false
namespace Go.Proofs.YtmenipaibjifiaaGreatDoor
open Go.RowKit Go.BigFrame

theorem filter_snoc {α : Type} (p : α → Bool) (l : List α) {k : Nat} (hk : k < l.length) : ((l.take (k + 1)).filter p).length = ((l.take k).filter p).length + (if p (l[k]'hk) = true then 1 else 0) := by
  rw [List.take_succ_eq_append_getElem hk, List.filter_append, List.length_append]
  by_cases h : p (l[k]'hk) = true <;> simp [h]
theorem filter_take_le {α : Type} (p : α → Bool) (l : List α) (k : Nat) : ((l.take k).filter p).length ≤ l.length := by
  have h1 := List.length_filter_le p (l.take k)
  rw [List.length_take] at h1
  omega
theorem rPodsL_slot {d : RDom} {key value : ByteArray} {s : Int} (h : s ∈ rPodsL d d.pods key value) : ∃ x ∈ d.pods, x.slot = s := by
  unfold rPodsL at h
  obtain ⟨x, hx, rfl⟩ := List.mem_map.1 h
  exact ⟨x, (List.mem_filter.1 hx).1, rfl⟩
theorem idx_pod {d : RDom} {s : Int} (h : ∃ x ∈ d.pods, x.slot = s) : ∃ (k : Nat) (hk : k < d.pods.length), rPodAt d s = some (d.pods[k]'hk) ∧ idxBy (fun x : RPod => decide (x.slot = s)) d.pods = k := by
  rcases idx_find (fun x : RPod => decide (x.slot = s)) d.pods with ⟨h1, _⟩ | ⟨k, hk, h1, h2⟩
  · obtain ⟨x, hx, e⟩ := h
    rw [List.find?_eq_none] at h1
    exact absurd (by simpa using e) (h1 x hx)
  · exact ⟨k, hk, h1, h2⟩
set_option maxRecDepth 100000 in
set_option maxHeartbeats 4000000 in
theorem rcount_k (R : Ending → World → Prop) (w : World) (ok : Nat → Prop) (d : RDom) (key value pk pv : ByteArray) (cs : List Value) (hok : ∀ k, ok k → k < w.heap.size) (hd : rdomK w ok d cs) (Z : Sized d)
    (hR : ∀ w', Below w.heap.size w w' → R (.returned (.int .i64 (rCountN d key value pk pv : Nat))) w') :
    Calls Tryz.prog 66 #[.agg cs.toArray, .string key, .string value, .string pk, .string pv] w R := by
  obtain ⟨vn, vp, rfl, hn, hp⟩ := hd
  have hB : Below w.heap.size w (w.alloc (.cells #[vn, vp] 29)) := Below.alloc (Below.refl _ _) (Nat.le_refl _) _
  have q0 : (w.alloc (.cells #[vn, vp] 29)).cell? ⟨w.heap.size, 0, none⟩ = some vn := cell_new rfl
  have q1 : (w.alloc (.cells #[vn, vp] 29)).cell? ⟨w.heap.size, 1, none⟩ = some vp := cell_new rfl
  have HR := Lib.hid hR
  have HN := Lib.hid (hn.below rnodeOk hB hok)
  have HP := Lib.hid (hp.below rpodOk hB hok)
  obtain ⟨A, c, e, hlc, _⟩ := hn.form
  subst e
  obtain ⟨A2, c2, e2, hlc2, _⟩ := hp.form
  subst e2
  have HOK := Lib.hid (show ∀ k, ok k → k < (w.alloc (.cells #[.slice A d.nodes.length c, .slice A2 d.pods.length c2] 29)).heap.size from fun k h => by have := hok k h; simp; omega)
  have HZ := Lib.hid Z
  have hzn := Z.n
  have hzp := Z.p
  clear hR hn hp hok Z
  go_enter Tryz.func66, Tryz.ntmps66
  go_wp2_with fail
  generalize hW0 : w.alloc (.cells #[.slice A d.nodes.length c, .slice A2 d.pods.length c2] 29) = w0 at *
  clear hW0
  refine rpods_k _ _ ok d key value [_, _] HOK.out ⟨_, _, rfl, HN.out, HP.out⟩ (by omega) (by omega) (fun x hx => by have := HZ.out.nl x hx; omega) ?_
  intro vl w1 g1 hl1
  obtain ⟨sl, hsl⟩ : ∃ sl, rPodsL d d.pods key value = sl := ⟨_, rfl⟩
  have hmem : ∀ s, s ∈ sl → ∃ x ∈ d.pods, x.slot = s := fun s hs => rPodsL_slot (by rw [hsl]; exact hs)
  have hsll : sl.length ≤ 2048 := by have := rPodsL_le d d.pods key value; rw [hsl] at this; omega
  have hRv : ∀ w', Below w.heap.size w w' → R (.returned (.int .i64 (((sl.filter (podHas d pk pv)).length : Nat) : Int))) w' := fun w' h => by have := HR.out w' h; unfold rCountN at this; rwa [hsl] at this
  have HRV := Lib.hid hRv
  have HMEM := Lib.hid hmem
  rw [hsl] at hl1
  obtain ⟨A3, c3, e3, hl3, _⟩ := hl1.form
  subst e3
  have HL1 := Lib.hid (SlK.bnd intOk hl1)
  have q0w := (Mod.of_below g1).cell' q0 (fun h => h)
  have q1w := (Mod.of_below g1).cell' q1 (fun h => h)
  have HG1 := Lib.hid g1
  have hs1 := g1.size
  clear hl1 hsl g1 q0 q1 hRv hmem HR
  go_wp2_with fail
  go_loopw [11, 13] (fun v i wr => ∃ k : Nat, k ≤ sl.length ∧ i = .int .i64 k ∧ v = .int .i64 (((sl.take k).filter (podHas d pk pv)).length : Nat) ∧ Below w1.heap.size w1 wr) (fun _ i _ => sl.length - (intOf i).toNat)
  case atStart => exact ⟨0, Nat.zero_le _, rfl, rfl, Below.refl _ _⟩
  case round =>
    obtain ⟨k, hk, rfl, rfl, hBr⟩ := hrel
    have hsr := hBr.size
    have hcl := filter_take_le (podHas d pk pv) sl k
    by_cases hkl : k < sl.length
    · have hv2 := HL1.out.below intOk hBr (fun i hi => hi.2)
      obtain ⟨b, off, c', he, _, _, hbk, hbl, hce⟩ := hv2.addr (by omega)
      simp only [Value.slice.injEq] at he
      obtain ⟨rfl, -, rfl⟩ := he
      obtain ⟨cs1, hc1, _, hc2⟩ := hce k hkl
      cases hc1
      have c0 : wr.cell? ⟨b, off + k, none⟩ = some (.int .i64 (sl[k]'hkl)) := by simpa using hc2 0 _ rfl
      have hsn := filter_snoc (podHas d pk pv) sl hkl
      obtain ⟨kp, hkp, hp1, hp2⟩ := idx_pod (HMEM.out _ (List.getElem_mem hkl))
      obtain ⟨u, hu⟩ : ∃ u, sl[k]'hkl = u := ⟨_, rfl⟩
      rw [hu] at c0 hsn hp1 hp2
      have hpe : podHas d pk pv u = decide (getB (d.pods[kp]'hkp).labels pk = some pv) := by unfold podHas; rw [hp1]; rfl
      rw [hpe] at hsn
      have hB1r := HG1.out.trans (hBr.mono hs1)
      have hpr := HP.out.below rpodOk hB1r HOK.out
      obtain ⟨b2, off2, c2', he2, _, _, hbk2, hbl2, hce2⟩ := hpr.addr (by omega)
      simp only [Value.slice.injEq] at he2
      obtain ⟨rfl, -, rfl⟩ := he2
      obtain ⟨v1, _, _, d2, hv1⟩ := rpod_cells hce2 kp hkp
      have hxl : (d.pods[kp]'hkp).labels.length ≤ 32 := HZ.out.pl _ (List.getElem_mem hkp)
      obtain ⟨ls, hls⟩ : ∃ ls, (d.pods[kp]'hkp).labels = ls := ⟨_, rfl⟩
      rw [hls] at hv1 hxl hsn
      have q0r := (Mod.of_below hBr).cell' q0w (fun h => h)
      have q1r := (Mod.of_below hBr).cell' q1w (fun h => h)
      have HSN := Lib.hid hsn
      have HV1 := Lib.hid hv1
      have HP2 := Lib.hid hp2
      have HBR := Lib.hid hBr
      have HRD := Lib.hid (show rdomK wr ok d [.slice A d.nodes.length c, .slice (some ⟨b2, off2, none⟩) d.pods.length c2] from ⟨_, _, rfl, HN.out.below rnodeOk hB1r HOK.out, hpr⟩)
      have HOKr := Lib.hid (show ∀ j, ok j → j < wr.heap.size from fun j hj => Nat.lt_of_lt_of_le (HOK.out j hj) hB1r.size)
      have HK := Lib.hid (show ∀ w', Below wr.heap.size wr w' → Below wr.heap.size wr w' ∧ w'.cell? ⟨w.heap.size, 0, none⟩ = some (.slice A d.nodes.length c) ∧ w'.cell? ⟨w.heap.size, 1, none⟩ = some (.slice (some ⟨b2, off2, none⟩) d.pods.length c2) ∧ w'.cell? ⟨b, off + k, none⟩ = some (.int .i64 u) from
        fun w' hw => ⟨hw, (Mod.of_below hw).cell' q0r (fun h => h), (Mod.of_below hw).cell' q1r (fun h => h), (Mod.of_below hw).cell' c0 (fun h => h)⟩)
      clear hce hc2 hv2 hsn hBr hu hB1r hpr hce2 hv1 hp1 hp2 hpe hls
      go_wp2_with fail
      go_region_held3 (fun w' => Below wr.heap.size wr w' ∧ w'.cell? ⟨w.heap.size, 0, none⟩ = some (.slice A d.nodes.length c) ∧ w'.cell? ⟨w.heap.size, 1, none⟩ = some (.slice (some ⟨b2, off2, none⟩) d.pods.length c2) ∧ w'.cell? ⟨b, off + k, none⟩ = some (.int .i64 u))
        (first
        | exact HK.out _ (Below.refl _ wr).drew
        | exact HK.out _ y1)
        (first
        | (go_at_call 137; refine rpod_k _ _ ok d u [_, _] HOKr.out HRD.out (by omega) ?_; intro w3 g3; rw [HP2.out]
           have y1 : Below wr.heap.size wr w3 := Below.of_drew g3))
      all_goals (
        have hs3 := y1.size
        have q1'' := (Mod.of_below y1).cell' q1r (fun h => h)
        have d2' := (Mod.of_below y1).cell' d2 (fun h => h)
        have HY := Lib.hid y1
        clear g3 y1
        cases hg : getB ls pk with
        | none =>
          have HG := Lib.hid (show (getB ls pk).getD ⟨#[]⟩ = ⟨#[]⟩ ∧ (getB ls pk).isSome = false by rw [hg]; exact ⟨rfl, rfl⟩)
          have HX := Lib.hid (show ((sl.take (k + 1)).filter (podHas d pk pv)).length = ((sl.take k).filter (podHas d pk pv)).length by rw [HSN.out, hg]; simp)
          clear hg
          go_wp2_with fail
          refine rget_t _ _ ok v1 ls pk _ _ HG.out (fun j hj => Nat.lt_of_lt_of_le (HOKr.out j hj) hs3) (HV1.out.below labOk HY.out HOKr.out) (by omega) ?_
          intro w4 g4
          have HB4 := Lib.hid (HBR.out.trans ((HY.out.trans (g4.mono hs3)).mono hsr))
          clear g4
          go_wp2_with fail
          go_roundw
          case rel => exact ⟨k + 1, by omega, by go_num, by rw [HX.out], HB4.out⟩
          case measure => simp [intOf]; omega
        | some z =>
          have HG := Lib.hid (show (getB ls pk).getD ⟨#[]⟩ = z ∧ (getB ls pk).isSome = true by rw [hg]; exact ⟨rfl, rfl⟩)
          cases he : (z.toList == pv.toList) with
          | false =>
            have HX := Lib.hid (show ((sl.take (k + 1)).filter (podHas d pk pv)).length = ((sl.take k).filter (podHas d pk pv)).length by rw [HSN.out, hg]; rw [ba_toList_beq] at he; simp at he; simp [he])
            clear hg
            go_wp2_with fail
            refine rget_t _ _ ok v1 ls pk _ _ HG.out (fun j hj => Nat.lt_of_lt_of_le (HOKr.out j hj) hs3) (HV1.out.below labOk HY.out HOKr.out) (by omega) ?_
            intro w4 g4
            have HB4 := Lib.hid (HBR.out.trans ((HY.out.trans (g4.mono hs3)).mono hsr))
            clear g4
            go_wp2_with fail
            go_roundw
            case rel => exact ⟨k + 1, by omega, by go_num, by rw [HX.out], HB4.out⟩
            case measure => simp [intOf]; omega
          | true =>
            have HX := Lib.hid (show ((sl.take (k + 1)).filter (podHas d pk pv)).length = ((sl.take k).filter (podHas d pk pv)).length + 1 by rw [HSN.out, hg]; rw [ba_toList_beq] at he; simp at he; simp [he])
            clear hg
            go_wp2_with fail
            refine rget_t _ _ ok v1 ls pk _ _ HG.out (fun j hj => Nat.lt_of_lt_of_le (HOKr.out j hj) hs3) (HV1.out.below labOk HY.out HOKr.out) (by omega) ?_
            intro w4 g4
            have HB4 := Lib.hid (HBR.out.trans ((HY.out.trans (g4.mono hs3)).mono hsr))
            clear g4
            go_wp2_with fail
            go_roundw
            case rel => exact ⟨k + 1, by omega, by go_num, by rw [HX.out]; go_num, HB4.out⟩
            case measure => simp [intOf]; omega)
    · obtain rfl : k = sl.length := by omega
      have hv := HRV.out wr (hB.trans ((HG1.out.trans (hBr.mono hs1)).mono hB.size))
      rw [List.take_length]
      clear hBr
      go_wp2_with fail
      exact hv
set_option maxRecDepth 100000 in
set_option maxHeartbeats 4000000 in
theorem rtally_k (R : Ending → World → Prop) (w : World) (ok : Nat → Prop) (d : RDom) (key : ByteArray) (vps : Value) (pods : List Int) (cs : List Value) (hok : ∀ k, ok k → k < w.heap.size) (hd : rdomK w ok d cs) (Z : Sized d)
    (hpd : SlK intsK 1 w ok vps pods) (hpl : pods.length ≤ 1073741824)
    (hR : ∀ v' w', Below w.heap.size w w' → SlK rrowK 2 w' (fun k => w.heap.size ≤ k) v' (rTallyL d key pods) → R (.returned v') w') :
    Calls Tryz.prog 67 #[.agg cs.toArray, .string key, vps] w R := by
  obtain ⟨Aq, cq, eq, hlq, _⟩ := hpd.form
  subst eq
  obtain ⟨vn, vp, rfl, hn, hp⟩ := hd
  have hB : Below w.heap.size w (w.alloc (.cells #[vn, vp] 29)) := Below.alloc (Below.refl _ _) (Nat.le_refl _) _
  have q0 : (w.alloc (.cells #[vn, vp] 29)).cell? ⟨w.heap.size, 0, none⟩ = some vn := cell_new rfl
  have q1 : (w.alloc (.cells #[vn, vp] 29)).cell? ⟨w.heap.size, 1, none⟩ = some vp := cell_new rfl
  have HR := Lib.hid hR
  have HN := Lib.hid (hn.below rnodeOk hB hok)
  have HP := Lib.hid (hp.below rpodOk hB hok)
  obtain ⟨A, c, e, hlc, _⟩ := hn.form
  subst e
  obtain ⟨A2, c2, e2, hlc2, _⟩ := hp.form
  subst e2
  have HOK := Lib.hid (show ∀ k, ok k → k < (w.alloc (.cells #[.slice A d.nodes.length c, .slice A2 d.pods.length c2] 29)).heap.size from fun k h => by have := hok k h; simp; omega)
  have HZ := Lib.hid Z
  have HPD := Lib.hid (hpd.below intOk hB hok)
  clear hpd
  have hzn := Z.n
  have hzp := Z.p
  clear hR hn hp hok Z
  go_enter Tryz.func67, Tryz.ntmps67
  go_wp2_with fail
  generalize hW0 : w.alloc (.cells #[.slice A d.nodes.length c, .slice A2 d.pods.length c2] 29) = w0 at *
  clear hW0
  refine rvalues_k _ _ ok d key [_, _] HOK.out ⟨_, _, rfl, HN.out, HP.out⟩ HZ.out ?_
  intro vl w1 g1 hl1
  obtain ⟨rs, hrs⟩ : ∃ rs, rValuesL d key = rs := ⟨_, rfl⟩
  have hrl : rs.length ≤ 512 := by
    have := valTo_length HZ.out key d.nodes.length
    unfold valTo at this
    rw [List.take_length] at this
    rw [← hrs]
    unfold rValuesL rValL
    rw [List.length_map]; exact this
  have hRv : ∀ v' w', Below w.heap.size w w' → SlK rrowK 2 w' (fun k => w.heap.size ≤ k) v' (rs.map (fun r => (⟨r.value, rNum d key pods r.value⟩ : RRow))) → R (.returned v') w' := fun v' w' h h2 => HR.out v' w' h (by unfold rTallyL; rw [hrs]; exact h2)
  have HRV := Lib.hid hRv
  rw [hrs] at hl1
  obtain ⟨A3, c3, e3, hl3, _⟩ := hl1.form
  subst e3
  have HL1 := Lib.hid (SlK.bnd rrowOk hl1)
  have q0w := (Mod.of_below g1).cell' q0 (fun h => h)
  have q1w := (Mod.of_below g1).cell' q1 (fun h => h)
  have HG1 := Lib.hid g1
  have hs1 := g1.size
  clear hl1 hrs g1 q0 q1 hRv HR
  go_wp2_with fail
  go_loopw [8, 9] (fun v i wr => ∃ k : Nat, k ≤ rs.length ∧ i = .int .i64 k ∧ Below w1.heap.size w1 wr ∧ OwnK rrowK 2 273 wr w1.heap.size (fun _ => False) v ((rs.take k).map (fun r => (⟨r.value, rNum d key pods r.value⟩ : RRow)))) (fun _ i _ => rs.length - (intOf i).toNat)
  case atStart => exact ⟨0, Nat.zero_le _, rfl, Below.refl _ _, .nil (fun _ h => h.elim)⟩
  case round =>
    obtain ⟨k, hk, rfl, hBr, hO⟩ := hrel
    have hsr := hBr.size
    by_cases hkl : k < rs.length
    · have hv2 := HL1.out.below rrowOk hBr (fun i hi => hi.2)
      obtain ⟨b, off, c', he, _, _, hbk, hbl, hce⟩ := hv2.addr (by omega)
      simp only [Value.slice.injEq] at he
      obtain ⟨rfl, -, rfl⟩ := he
      obtain ⟨cs1, hc1, _, hc2⟩ := hce k hkl
      cases hc1
      have c0 : wr.cell? ⟨b, off + k * 2, none⟩ = some (.string (rs[k]'hkl).value) := hc2 0 _ rfl
      have hsn : (rs.take (k + 1)).map (fun r => (⟨r.value, rNum d key pods r.value⟩ : RRow)) = (rs.take k).map (fun r => (⟨r.value, rNum d key pods r.value⟩ : RRow)) ++ [⟨(rs[k]'hkl).value, rNum d key pods (rs[k]'hkl).value⟩] := by rw [List.take_succ_eq_append_getElem hkl, List.map_append]; rfl
      obtain ⟨u, hu⟩ : ∃ u, (rs[k]'hkl).value = u := ⟨_, rfl⟩
      rw [hu] at c0 hsn
      have q0r := (Mod.of_below hBr).cell' q0w (fun h => h)
      have q1r := (Mod.of_below hBr).cell' q1w (fun h => h)
      have hB1r := HG1.out.trans (hBr.mono hs1)
      have HSN := Lib.hid hsn
      have HBR := Lib.hid hBr
      have HO := Lib.hid hO
      have HRD := Lib.hid (show rdomK wr ok d [.slice A d.nodes.length c, .slice A2 d.pods.length c2] from ⟨_, _, rfl, HN.out.below rnodeOk hB1r HOK.out, HP.out.below rpodOk hB1r HOK.out⟩)
      have HOKr := Lib.hid (show ∀ j, ok j → j < wr.heap.size from fun j hj => Nat.lt_of_lt_of_le (HOK.out j hj) hB1r.size)
      have HPDr := Lib.hid (HPD.out.below intOk hB1r HOK.out)
      have HK := Lib.hid (show ∀ w', Below wr.heap.size wr w' → Below wr.heap.size wr w' ∧ w'.cell? ⟨w.heap.size, 0, none⟩ = some (.slice A d.nodes.length c) ∧ w'.cell? ⟨w.heap.size, 1, none⟩ = some (.slice A2 d.pods.length c2) ∧ w'.cell? ⟨b, off + k * 2, none⟩ = some (.string u) from
        fun w' hw => ⟨hw, (Mod.of_below hw).cell' q0r (fun h => h), (Mod.of_below hw).cell' q1r (fun h => h), (Mod.of_below hw).cell' c0 (fun h => h)⟩)
      clear hce hc2 hv2 hsn hBr hO hu hB1r
      go_wp2_with fail
      go_region_held3 (fun w' => Below wr.heap.size wr w' ∧ w'.cell? ⟨w.heap.size, 0, none⟩ = some (.slice A d.nodes.length c) ∧ w'.cell? ⟨w.heap.size, 1, none⟩ = some (.slice A2 d.pods.length c2) ∧ w'.cell? ⟨b, off + k * 2, none⟩ = some (.string u))
        (first
        | exact HK.out _ (Below.refl _ wr).drew
        | exact HK.out _ y1)
        (first
        | (go_at_call 148; refine rpods_k _ _ ok d key u [_, _] HOKr.out HRD.out (by omega) (by omega) (fun x hx => by have := HZ.out.nl x hx; omega) ?_; intro vq w3 g3 hq3
           have y1 : Below wr.heap.size wr w3 := Below.of_drew g3))
      all_goals (
        obtain ⟨sl, hsl⟩ : ∃ sl, rPodsL d d.pods key u = sl := ⟨_, rfl⟩
        have hsll : sl.length ≤ 2048 := by have := rPodsL_le d d.pods key u; rw [hsl] at this; omega
        have hnum : (rNum d key pods u) = (sl.filter (isIn pods)).length := by unfold rNum; rw [hsl]
        have HNUM := Lib.hid hnum
        rw [hsl] at hq3
        obtain ⟨A5, c5, e5, _, _⟩ := hq3.form
        subst e5
        have HQ3 := Lib.hid (SlK.bnd intOk hq3)
        have HY := Lib.hid y1
        have hs3 := y1.size
        clear g3 hq3 y1 hsl hnum
        go_wp2_with fail
        obtain ⟨w5, e5⟩ : ∃ W, W = wr := ⟨_, rfl⟩
        subst e5
        go_loopw [11, 12] (fun v i wr => ∃ j : Nat, j ≤ sl.length ∧ i = .int .i64 j ∧ v = .int .i64 (((sl.take j).filter (isIn pods)).length : Nat) ∧ Below w3.heap.size w3 wr) (fun _ i _ => sl.length - (intOf i).toNat)
        case atStart => exact ⟨0, Nat.zero_le _, rfl, rfl, Below.refl _ _⟩
        case round =>
          obtain ⟨j, hj, rfl, rfl, hBt⟩ := hrel
          have hcl := filter_take_le (isIn pods) sl j
          have hst := hBt.size
          by_cases hjl : j < sl.length
          · have hv3 := HQ3.out.below intOk hBt (fun i hi => hi.2)
            obtain ⟨b5, off5, c5', he5, _, _, hbk5, hbl5, hce5⟩ := hv3.addr (by omega)
            simp only [Value.slice.injEq] at he5
            obtain ⟨rfl, -, rfl⟩ := he5
            obtain ⟨cs5, hc5, _, hc6⟩ := hce5 j hjl
            cases hc5
            have z0 : wr.cell? ⟨b5, off5 + j, none⟩ = some (.int .i64 (sl[j]'hjl)) := by simpa using hc6 0 _ rfl
            have hsn2 := filter_snoc (isIn pods) sl hjl
            obtain ⟨y, hy⟩ : ∃ y, sl[j]'hjl = y := ⟨_, rfl⟩
            rw [hy] at z0 hsn2
            have HSN2 := Lib.hid hsn2
            have HBT := Lib.hid hBt
            have hrt := HY.out.trans (hBt.mono hs3)
            have HOKt := Lib.hid (show ∀ i, ok i → i < wr.heap.size from fun i hi => Nat.lt_of_lt_of_le (HOKr.out i hi) hrt.size)
            have HPt := Lib.hid (HPDr.out.below intOk hrt HOKr.out)
            clear hce5 hc6 hv3 hsn2 hBt hy hrt
            cases hin : isIn pods y with
            | false =>
              have HX := Lib.hid (show ((sl.take (j + 1)).filter (isIn pods)).length = ((sl.take j).filter (isIn pods)).length by rw [HSN2.out, hin]; simp)
              have HIN := Lib.hid hin
              clear hin
              go_wp2_with fail
              refine rin_k _ _ ok pods y _ HOKt.out HPt.out hpl ?_
              intro w5 g5
              rw [show pods.any (fun x : Int => decide (x = y)) = false from HIN.out]
              have HB5 := Lib.hid (HBT.out.trans (g5.mono hst))
              clear g5
              go_wp2_with fail
              go_roundw
              case rel => exact ⟨j + 1, by omega, by go_num, by rw [HX.out], HB5.out⟩
              case measure => simp [intOf]; omega
            | true =>
              have HX := Lib.hid (show ((sl.take (j + 1)).filter (isIn pods)).length = ((sl.take j).filter (isIn pods)).length + 1 by rw [HSN2.out, hin]; simp)
              have HIN := Lib.hid hin
              clear hin
              go_wp2_with fail
              refine rin_k _ _ ok pods y _ HOKt.out HPt.out hpl ?_
              intro w5 g5
              rw [show pods.any (fun x : Int => decide (x = y)) = true from HIN.out]
              have HB5 := Lib.hid (HBT.out.trans (g5.mono hst))
              clear g5
              go_wp2_with fail
              go_roundw
              case rel => exact ⟨j + 1, by omega, by go_num, by rw [HX.out]; go_num, HB5.out⟩
              case measure => simp [intOf]; omega
          · obtain rfl : j = sl.length := by omega
            rw [List.take_length]
            have hB3 := HBR.out.trans ((HY.out.trans (hBt.mono hs3)).mono hsr)
            have c0' := (Mod.of_below (HY.out.trans (hBt.mono hs3))).cell' c0 (fun h => h)
            have hO3 := HO.out.move rrowOk (w' := wr) (fun i hi _ => (HY.out.trans (hBt.mono hs3)).block i hi) (by omega)
            have HB3 := Lib.hid hB3
            have hlen : ((rs.take k).map (fun r => (⟨r.value, rNum d key pods r.value⟩ : RRow))).length = k := by rw [List.length_map, List.length_take]; omega
            clear hBt hB3
            go_wp2_with (at_builtin; refine append_k rrowOk rfl _ _ 146 273 (.agg #[.string ⟨#[]⟩, .int .i64 0]) 24 w1.heap.size (fun _ => False) rfl Tryz.underlying146 infoRRow rfl (by decide) (by decide) u8 ((rs.take k).map (fun r => (⟨r.value, rNum d key pods r.value⟩ : RRow))) ⟨u, rNum d key pods u⟩ #[.string u, .int .i64 ((sl.filter (isIn pods)).length : Nat)] rfl rfl ?d1 hO3 ?d2 HB3.out.size ?d3 ?_)
            case d1 => simp [Value.oneCell']
            case d2 => rw [HNUM.out]; rfl
            case d3 => rw [hlen]; omega
            intro v4 w4 hO4 hg4 _
            have hB4 := HB3.out.grown hg4 HB3.out.size (fun k h => (hO3.own k h).1)
            have HO4 := Lib.hid hO4
            have HB4 := Lib.hid hB4
            clear hO4 hg4 hB4 hO3 hlen
            go_wp2_with fail
            go_roundw
            case rel => exact ⟨k + 1, by omega, by go_num, HB4.out, by rw [HSN.out, List.map_take]; exact HO4.out⟩
            case measure => simp [intOf]; omega)
    · obtain rfl : k = rs.length := by omega
      rw [List.take_length] at hO
      have hv := HRV.out u8 wr (hB.trans ((HG1.out.trans (hBr.mono hs1)).mono hB.size)) (SlK.mono rrowOk (hO.slk rrowOk) (fun j hj => hj.elim (fun h => h.elim) (fun h => Nat.le_trans hB.size (Nat.le_trans hs1 (hO.own j h).1))))
      clear hO hBr
      go_wp2_with fail
      exact hv
end Go.Proofs.YtmenipaibjifiaaGreatDoor

namespace Go.Proofs.YtmenipaibjifiaaGreatDoor
open Go.RowKit Go.BigFrame

def rankTo (rows : List RRow) (d : RDom) (key : ByteArray) (c n : Int) (k : Nat) : List Int := (d.nodes.take k).flatMap (rankRow rows key c n)
def rankHit (v : ByteArray) (c n : Int) (r : RRow) : Bool := decide (r.value = v) && standsB r.n c n
def rankIn (rows : List RRow) (v : ByteArray) (c n s : Int) (j : Nat) : List Int := ((rows.take j).filter (rankHit v c n)).map (fun _ => s)
theorem rankTo_snoc (rows : List RRow) (d : RDom) (key : ByteArray) (c n : Int) {k : Nat} (hk : k < d.nodes.length) : rankTo rows d key c n (k + 1) = rankTo rows d key c n k ++ rankRow rows key c n (d.nodes[k]'hk) := by
  unfold rankTo
  rw [List.take_succ_eq_append_getElem hk, List.flatMap_append]
  simp
theorem rankIn_snoc (rows : List RRow) (v : ByteArray) (c n s : Int) {j : Nat} (hj : j < rows.length) : rankIn rows v c n s (j + 1) = rankIn rows v c n s j ++ (if rankHit v c n (rows[j]'hj) = true then [s] else []) := by
  unfold rankIn
  rw [List.take_succ_eq_append_getElem hj, List.filter_append, List.map_append]
  by_cases h : rankHit v c n (rows[j]'hj) = true <;> simp [h]
theorem rankIn_len (rows : List RRow) (v : ByteArray) (c n s : Int) (j : Nat) : (rankIn rows v c n s j).length ≤ rows.length := by
  unfold rankIn
  rw [List.length_map]
  exact filter_take_le _ _ _
theorem rankRow_len (rows : List RRow) (key : ByteArray) (c n : Int) (x : RNode) : (rankRow rows key c n x).length ≤ rows.length := by
  unfold rankRow
  split
  · simp
  · rw [List.length_map]; exact List.length_filter_le _ _
theorem rankTo_len {d : RDom} (Z : Sized d) (rows : List RRow) (hr : rows.length ≤ 512) (key : ByteArray) (c n : Int) (k : Nat) : (rankTo rows d key c n k).length ≤ 262144 := by
  have h2 := flat_len' (rankRow rows key c n) 512 (d.nodes.take k) (fun x _ => Nat.le_trans (rankRow_len _ _ _ _ _) hr)
  have h3 := Z.n
  rw [List.length_take] at h2
  unfold rankTo
  omega
set_option maxRecDepth 100000 in
set_option maxHeartbeats 4000000 in
theorem rranked_k (R : Ending → World → Prop) (w : World) (ok : Nat → Prop) (d : RDom) (key : ByteArray) (vps : Value) (pods : List Int) (cm n : Int) (cs : List Value) (hok : ∀ k, ok k → k < w.heap.size) (hd : rdomK w ok d cs) (Z : Sized d)
    (hpd : SlK intsK 1 w ok vps pods) (hpl : pods.length ≤ 1073741824)
    (hR : ∀ v' w', Below w.heap.size w w' → SlK intsK 1 w' (fun k => w.heap.size ≤ k) v' (rRankedL d key pods cm n) → R (.returned v') w') :
    Calls Tryz.prog 151 #[.agg cs.toArray, .string key, vps, .int .i64 cm, .int .i64 n] w R := by
  obtain ⟨Aq, cq, eq, hlq, _⟩ := hpd.form
  subst eq
  obtain ⟨vn, vp, rfl, hn, hp⟩ := hd
  have hB : Below w.heap.size w (w.alloc (.cells #[vn, vp] 29)) := Below.alloc (Below.refl _ _) (Nat.le_refl _) _
  have q0 : (w.alloc (.cells #[vn, vp] 29)).cell? ⟨w.heap.size, 0, none⟩ = some vn := cell_new rfl
  have q1 : (w.alloc (.cells #[vn, vp] 29)).cell? ⟨w.heap.size, 1, none⟩ = some vp := cell_new rfl
  have HR := Lib.hid hR
  have HN := Lib.hid (hn.below rnodeOk hB hok)
  have HP := Lib.hid (hp.below rpodOk hB hok)
  obtain ⟨A, c, e, hlc, _⟩ := hn.form
  subst e
  obtain ⟨A2, c2, e2, hlc2, _⟩ := hp.form
  subst e2
  have HOK := Lib.hid (show ∀ k, ok k → k < (w.alloc (.cells #[.slice A d.nodes.length c, .slice A2 d.pods.length c2] 29)).heap.size from fun k h => by have := hok k h; simp; omega)
  have HZ := Lib.hid Z
  have HPD := Lib.hid (hpd.below intOk hB hok)
  clear hpd
  have hzn := Z.n
  have hzp := Z.p
  clear hR hn hp hok Z
  go_enter Tryz.func151, Tryz.ntmps151
  go_wp2_with fail
  generalize hW0 : w.alloc (.cells #[.slice A d.nodes.length c, .slice A2 d.pods.length c2] 29) = w0 at *
  clear hW0
  refine rtally_k _ _ ok d key _ pods [_, _] HOK.out ⟨_, _, rfl, HN.out, HP.out⟩ HZ.out HPD.out hpl ?_
  intro vl w1 g1 hl1
  obtain ⟨rs, hrs⟩ : ∃ rs, rTallyL d key pods = rs := ⟨_, rfl⟩
  have hrl : rs.length ≤ 512 := by
    have := valTo_length HZ.out key d.nodes.length
    unfold valTo at this
    rw [List.take_length] at this
    rw [← hrs, rTallyL_eq, List.length_map]
    exact this
  have hRv : ∀ v' w', Below w.heap.size w w' → SlK intsK 1 w' (fun k => w.heap.size ≤ k) v' (rankTo rs d key cm n d.nodes.length) → R (.returned v') w' := fun v' w' h h2 => HR.out v' w' h (by unfold rRankedL; rw [hrs]; unfold rankTo at h2; rwa [List.take_length] at h2)
  have HRV := Lib.hid hRv
  rw [hrs] at hl1
  obtain ⟨A3, c3, e3, hl3, _⟩ := hl1.form
  subst e3
  have HL1 := Lib.hid (SlK.bnd rrowOk hl1)
  have q0w := (Mod.of_below g1).cell' q0 (fun h => h)
  have HG1 := Lib.hid g1
  have hs1 := g1.size
  clear hl1 hrs g1 q0 q1 hRv HR
  go_wp2_with fail
  go_loopw [12, 13] (fun v i wr => ∃ k : Nat, k ≤ d.nodes.length ∧ i = .int .i64 k ∧ Below w1.heap.size w1 wr ∧ OwnK intsK 1 3 wr w1.heap.size (fun _ => False) v (rankTo rs d key cm n k)) (fun _ i _ => d.nodes.length - (intOf i).toNat)
  case atStart => exact ⟨0, Nat.zero_le _, rfl, Below.refl _ _, .nil (fun _ h => h.elim)⟩
  case round =>
    obtain ⟨k, hk, rfl, hBr, hO⟩ := hrel
    have hsr := hBr.size
    have q0r := (Mod.of_below hBr).cell' q0w (fun h => h)
    by_cases hkl : k < d.nodes.length
    · have hB1r := HG1.out.trans (hBr.mono hs1)
      have hn2 := HN.out.below rnodeOk hB1r HOK.out
      obtain ⟨b, off, c', he, _, _, hbk, hbl, hce⟩ := hn2.addr (by omega)
      simp only [Value.slice.injEq] at he
      obtain ⟨rfl, -, rfl⟩ := he
      obtain ⟨v1, c0, c1, hv1⟩ := rnode_cells hce k hkl
      have hxl : (d.nodes[k]'hkl).labels.length ≤ 32 := HZ.out.nl _ (List.getElem_mem hkl)
      have hsn := rankTo_snoc rs d key cm n hkl
      have hto := rankTo_len HZ.out rs hrl key cm n k
      obtain ⟨x, hx⟩ : ∃ x, d.nodes[k]'hkl = x := ⟨_, rfl⟩
      rw [hx] at hv1 hxl hsn c0
      obtain ⟨ls, hls⟩ : ∃ ls, x.labels = ls := ⟨_, rfl⟩
      obtain ⟨sx, hsx⟩ : ∃ sx, x.slot = sx := ⟨_, rfl⟩
      unfold rankRow at hsn
      rw [hls] at hv1 hxl hsn
      rw [hsx] at c0 hsn
      have HV1 := Lib.hid hv1
      have HOKr := Lib.hid (show ∀ j, ok j → j < wr.heap.size from fun j hj => Nat.lt_of_lt_of_le (HOK.out j hj) hB1r.size)
      cases hg : getB ls key with
      | none =>
        have HG := Lib.hid (show (getB ls key).getD ⟨#[]⟩ = ⟨#[]⟩ ∧ (getB ls key).isSome = false by rw [hg]; exact ⟨rfl, rfl⟩)
        rw [hg] at hsn
        have HSN := Lib.hid hsn
        have HBR := Lib.hid hBr
        have HO := Lib.hid hO
        clear hce hn2 hv1 hBr hO hls hsn hg hx hsx hB1r
        go_wp2_with fail
        refine rget_t _ _ ok v1 ls key _ _ HG.out HOKr.out HV1.out (by omega) ?_
        intro w3 g3
        have HB3 := Lib.hid (HBR.out.trans (g3.mono hsr))
        have HO3 := Lib.hid (HO.out.move intOk (w' := w3) (fun j hj _ => g3.block j hj) g3.size)
        clear g3
        go_wp2_with fail
        go_roundw
        case rel => exact ⟨k + 1, by omega, by go_num, HB3.out, by rw [HSN.out]; simpa using HO3.out⟩
        case measure => simp [intOf]; omega
      | some u =>
        have HG := Lib.hid (show (getB ls key).getD ⟨#[]⟩ = u ∧ (getB ls key).isSome = true by rw [hg]; exact ⟨rfl, rfl⟩)
        rw [hg] at hsn
        have hsn2 : rankTo rs d key cm n (k + 1) = rankTo rs d key cm n k ++ rankIn rs u cm n sx rs.length := by rw [hsn]; unfold rankIn; rw [List.take_length]; rfl
        have HSN := Lib.hid hsn2
        have HBR := Lib.hid hBr
        have HO := Lib.hid hO
        clear hce hn2 hv1 hBr hO hls hsn hg hx hsx hB1r hsn2
        go_wp2_with fail
        refine rget_t _ _ ok v1 ls key _ _ HG.out HOKr.out HV1.out (by omega) ?_
        intro w3 g3
        have HB3 := Lib.hid (HBR.out.trans (g3.mono hsr))
        have HO3 := Lib.hid (HO.out.move intOk (w' := w3) (fun j hj _ => g3.block j hj) g3.size)
        have q03 := (Mod.of_below g3).cell' q0r (fun h => h)
        have c03 := (Mod.of_below g3).cell' c0 (fun h => h)
        have c13 := (Mod.of_below g3).cell' c1 (fun h => h)
        have hs3 := g3.size
        have hlt1 : w.heap.size < w1.heap.size := by have := (World.block_lt_of_cell? _ _ q0w); exact this
        have hltb : b < w3.heap.size := World.block_lt_of_cell? _ _ c03
        clear g3
        obtain ⟨w5, e5⟩ : ∃ W, W = wr := ⟨_, rfl⟩
        subst e5
        have hbB : b < w1.heap.size := by
          have := HOK.out b hbk
          omega
        go_wp2_with fail
        go_loopw [12, 16] (fun v i wt => ∃ j : Nat, j ≤ rs.length ∧ i = .int .i64 j ∧ Below w1.heap.size w1 wt ∧ OwnK intsK 1 3 wt w1.heap.size (fun _ => False) v (rankTo rs d key cm n k ++ rankIn rs u cm n sx j)) (fun _ i _ => rs.length - (intOf i).toNat)
        case atStart => exact ⟨0, Nat.zero_le _, rfl, HB3.out, by simpa [rankIn] using HO3.out⟩
        case round =>
          obtain ⟨j, hj, rfl, hBt, hOt⟩ := hrel
          have hst := hBt.size
          have q0t := (hBt.cell (p := ⟨w.heap.size, 0, none⟩) hlt1).trans q0w
          by_cases hjl : j < rs.length
          · have hv3 := HL1.out.below rrowOk hBt (fun i hi => hi.2)
            obtain ⟨b5, off5, c5', he5, _, _, hbk5, hbl5, hce5⟩ := hv3.addr (by omega)
            simp only [Value.slice.injEq] at he5
            obtain ⟨rfl, -, rfl⟩ := he5
            obtain ⟨cs5, hc5, _, hc6⟩ := hce5 j hjl
            cases hc5
            have z0 : wr.cell? ⟨b5, off5 + j * 2, none⟩ = some (.string (rs[j]'hjl).value) := hc6 0 _ rfl
            have z1 : wr.cell? ⟨b5, off5 + j * 2 + 1, none⟩ = some (.int .i64 (rs[j]'hjl).n) := hc6 1 _ rfl
            have hb1 : Below w1.heap.size w1 w1 := Below.refl _ _
            have c0t : wr.cell? ⟨b, off + k * 2, none⟩ = some (.int .i64 sx) := by
              have h1 := HBR.out.cell (p := ⟨b, off + k * 2, none⟩) hbB
              have h2 := hBt.cell (p := ⟨b, off + k * 2, none⟩) hbB
              rw [h2, ← h1]; exact c0
            have hsn3 := rankIn_snoc rs u cm n sx hjl
            unfold rankHit at hsn3
            obtain ⟨rv, hrv⟩ : ∃ rv, (rs[j]'hjl).value = rv := ⟨_, rfl⟩
            obtain ⟨rn, hrn⟩ : ∃ rn, (rs[j]'hjl).n = rn := ⟨_, rfl⟩
            rw [hrv] at z0 hsn3
            rw [hrn] at z1 hsn3
            have hil := rankIn_len rs u cm n sx j
            have HBT := Lib.hid hBt
            have HSN3 := Lib.hid hsn3
            clear hce5 hc6 hv3 hBt hrv hrn hsn3 hb1
            cases hso : standsB rn cm n with
            | false =>
              have HX := Lib.hid (show rankIn rs u cm n sx (j + 1) = rankIn rs u cm n sx j by rw [HSN3.out, hso]; simp)
              have HSO := Lib.hid hso
              clear hso
              cases he : (rv.toList == u.toList) with
              | false =>
                have HOT := Lib.hid hOt
                clear hOt
                go_wp2_with fail
                refine rcmp_k _ _ rn cm n ?_
                rw [HSO.out]
                go_wp2_with fail
                go_roundw
                case rel => exact ⟨j + 1, by omega, by go_num, HBT.out, by rw [HX.out]; exact HOT.out⟩
                case measure => simp [intOf]; omega
              | true =>
                have HOT := Lib.hid hOt
                clear hOt
                go_wp2_with fail
                refine rcmp_k _ _ rn cm n ?_
                rw [HSO.out]
                go_wp2_with fail
                go_roundw
                case rel => exact ⟨j + 1, by omega, by go_num, HBT.out, by rw [HX.out]; exact HOT.out⟩
                case measure => simp [intOf]; omega
            | true =>
              have HSO := Lib.hid hso
              cases he : (rv.toList == u.toList) with
              | false =>
                have HX := Lib.hid (show rankIn rs u cm n sx (j + 1) = rankIn rs u cm n sx j by rw [HSN3.out]; rw [ba_toList_beq] at he; simp at he; simp [he])
                have HOT := Lib.hid hOt
                clear hOt hso
                go_wp2_with fail
                refine rcmp_k _ _ rn cm n ?_
                rw [HSO.out]
                go_wp2_with fail
                go_roundw
                case rel => exact ⟨j + 1, by omega, by go_num, HBT.out, by rw [HX.out]; exact HOT.out⟩
                case measure => simp [intOf]; omega
              | true =>
                have HX := Lib.hid (show rankIn rs u cm n sx (j + 1) = rankIn rs u cm n sx j ++ [sx] by rw [HSN3.out, hso]; rw [ba_toList_beq] at he; simp at he; simp [he])
                clear hso
                go_wp2_with fail
                refine rcmp_k _ _ rn cm n ?_
                rw [HSO.out]
                go_wp2_with (at_builtin; refine append_k intOk rfl _ _ 43 3 (.int .i64 0) 8 w1.heap.size (fun _ => False) rfl Tryz.underlying43 infoInt rfl (by decide) (by decide) u12 (rankTo rs d key cm n k ++ rankIn rs u cm n sx j) sx #[.int .i64 sx] rfl rfl ?d1 hOt ?d2 hst ?d3 ?_)
                case d1 => simp [Value.oneCell']
                case d2 => rfl
                case d3 => rw [List.length_append]; omega
                intro v4 w4 hO4 hg4 _
                have HB4 := Lib.hid (HBT.out.grown hg4 hst (fun k h => (hOt.own k h).1))
                have HO4 := Lib.hid hO4
                clear hO4 hg4 hOt
                go_wp2_with fail
                go_roundw
                case rel => exact ⟨j + 1, by omega, by go_num, HB4.out, by rw [HX.out]; exact HO4.out⟩
                case measure => simp [intOf]; omega
          · obtain rfl : j = rs.length := by omega
            have HBT := Lib.hid hBt
            have HOT := Lib.hid hOt
            clear hBt hOt
            go_wp2_with fail
            go_roundw
            case rel => exact ⟨k + 1, by omega, by go_num, HBT.out, by rw [HSN.out]; exact HOT.out⟩
            case measure => simp [intOf]; omega
    · obtain rfl : k = d.nodes.length := by omega
      have hv := HRV.out u12 wr (hB.trans ((HG1.out.trans (hBr.mono hs1)).mono hB.size)) (SlK.mono intOk (hO.slk intOk) (fun j hj => hj.elim (fun h => h.elim) (fun h => Nat.le_trans hB.size (Nat.le_trans hs1 (hO.own j h).1))))
      clear hO hBr
      go_wp2_with fail
      exact hv
set_option maxRecDepth 100000 in
set_option maxHeartbeats 4000000 in
theorem rnear_k (R : Ending → World → Prop) (w : World) (ok : Nat → Prop) (d : RDom) (key : ByteArray) (vps : Value) (pods : List Int) (cs : List Value) (hok : ∀ k, ok k → k < w.heap.size) (hd : rdomK w ok d cs) (Z : Sized d)
    (hpd : SlK intsK 1 w ok vps pods) (hpl : pods.length ≤ 1073741824)
    (hR : ∀ v' w', Below w.heap.size w w' → SlK intsK 1 w' (fun k => w.heap.size ≤ k) v' (rRankedL d key pods 6 1) → R (.returned v') w') :
    Calls Tryz.prog 150 #[.agg cs.toArray, .string key, vps] w R := by
  obtain ⟨Aq, cq, eq, hlq, _⟩ := hpd.form
  subst eq
  obtain ⟨vn, vp, rfl, hn, hp⟩ := hd
  have hB : Below w.heap.size w (w.alloc (.cells #[vn, vp] 29)) := Below.alloc (Below.refl _ _) (Nat.le_refl _) _
  have q0 : (w.alloc (.cells #[vn, vp] 29)).cell? ⟨w.heap.size, 0, none⟩ = some vn := cell_new rfl
  have q1 : (w.alloc (.cells #[vn, vp] 29)).cell? ⟨w.heap.size, 1, none⟩ = some vp := cell_new rfl
  have HR := Lib.hid hR
  have HN := Lib.hid (hn.below rnodeOk hB hok)
  have HP := Lib.hid (hp.below rpodOk hB hok)
  obtain ⟨A, c, e, hlc, _⟩ := hn.form
  subst e
  obtain ⟨A2, c2, e2, hlc2, _⟩ := hp.form
  subst e2
  have HOK := Lib.hid (show ∀ k, ok k → k < (w.alloc (.cells #[.slice A d.nodes.length c, .slice A2 d.pods.length c2] 29)).heap.size from fun k h => by have := hok k h; simp; omega)
  have HZ := Lib.hid Z
  have HPD := Lib.hid (hpd.below intOk hB hok)
  clear hpd
  have hzn := Z.n
  have hzp := Z.p
  clear hR hn hp hok Z
  go_enter Tryz.func150, Tryz.ntmps150
  go_wp2_with fail
  generalize hW0 : w.alloc (.cells #[.slice A d.nodes.length c, .slice A2 d.pods.length c2] 29) = w0 at *
  clear hW0
  refine rranked_k _ _ ok d key _ pods 6 1 [_, _] HOK.out ⟨_, _, rfl, HN.out, HP.out⟩ HZ.out HPD.out hpl ?_
  intro v' w1 g1 hl1
  have hv := HR.out v' w1 (hB.trans (g1.mono hB.size)) (SlK.mono intOk hl1 (fun j hj => Nat.le_trans hB.size hj))
  obtain ⟨A3, c3, e3, hl3, _⟩ := hl1.form
  subst e3
  clear hl1 g1
  go_wp2_with fail
  exact hv
end Go.Proofs.YtmenipaibjifiaaGreatDoor

namespace Go.Proofs.YtmenipaibjifiaaGreatDoor
open Go.RowKit Go.BigFrame Go.Shelf
attribute [local go_sem] Oper.semAt_some

structure AskD where
  kind : Int
  key : ByteArray
  value : ByteArray
  podKey : ByteArray
  podValue : ByteArray
  slot : Int
  pods : List Int
  cmp : Int
  n : Int
abbrev askC (x : AskD) (vp : Value) : Array Value := #[.int .i64 x.kind, .string x.key, .string x.value, .string x.podKey, .string x.podValue, .int .i64 x.slot, vp, .int .i64 x.cmp, .int .i64 x.n]
def askK : KRel AskD := fun w ok x cs => ∃ vp, cs = (askC x vp).toList ∧ SlK intsK 1 w ok vp x.pods
abbrev fnRows (B1 B2 : Nat) : Value := .func (.func 156) #[] #[.pointer (some ⟨B1, 0, none⟩), .pointer (some ⟨B2, 0, none⟩)]
/-- What a Domains answers, at any later world, is what the reference answers of d. -/
structure Asked (w : World) (dv : Value) (d : RDom) : Prop where
  keys : ∀ (R : Ending → World → Prop) w', Below w.heap.size w w' → (∀ v w'', Below w'.heap.size w' w'' → SlK strsK 1 w'' (fun k => w'.heap.size ≤ k) v (rKeysL d) → R (.returned v) w'') → Calls Tryz.prog 19 #[dv] w' R
  values : ∀ (R : Ending → World → Prop) w' key, Below w.heap.size w w' → (∀ B1 B2 vs ns w'', Below w'.heap.size w' w'' → RowsAt w' w'' B1 B2 vs ns → ns.length = vs.length → vs.length ≤ 1048576 → vs.zip ns = (rValuesL d key).map rowP → R (.returned (fnRows B1 B2)) w'') → Calls Tryz.prog 20 #[dv, .string key] w' R
  tally : ∀ (R : Ending → World → Prop) w' key ok vp l, Below w.heap.size w w' → SetP w' ok vp (marksN l) (marksS l) → (∀ k, ok k → k < w'.heap.size) → (∀ B1 B2 vs ns w'', Below w'.heap.size w' w'' → RowsAt w' w'' B1 B2 vs ns → ns.length = vs.length → vs.length ≤ 1048576 → vs.zip ns = (rTallyL d key l).map rowP → R (.returned (fnRows B1 B2)) w'') → Calls Tryz.prog 45 #[dv, .string key, vp] w' R
  of : ∀ (R : Ending → World → Prop) w' key s, Below w.heap.size w w' → (∀ w'', Below w'.heap.size w' w'' → R (.returned (getV (rOf d key s))) w'') → Calls Tryz.prog 43 #[dv, .string key, .int .i64 s] w' R
  count : ∀ (R : Ending → World → Prop) w' k v pk pv, Below w.heap.size w w' → (∀ w'', Below w'.heap.size w' w'' → R (.returned (.int .i64 (rCountN d k v pk pv : Nat))) w'') → Calls Tryz.prog 48 #[dv, .string k, .string v, .string pk, .string pv] w' R
  nodes : ∀ (R : Ending → World → Prop) w' k v, Below w.heap.size w w' → (∀ s b ws w'', Below w'.heap.size w' w'' → w'.heap.size ≤ s → w'.heap.size ≤ b → SetIn w'' s b 512 ws → natI (mems 512 ws) = rNodesL d.nodes k v → R (.returned (.pointer (some ⟨s, 0, none⟩))) w'') → Calls Tryz.prog 22 #[dv, .string k, .string v] w' R
  pods : ∀ (R : Ending → World → Prop) w' k v, Below w.heap.size w w' → (∀ s b ws w'', Below w'.heap.size w' w'' → w'.heap.size ≤ s → w'.heap.size ≤ b → SetIn w'' s b 2048 ws → natI (mems 2048 ws) = rPodsL d d.pods k v → R (.returned (.pointer (some ⟨s, 0, none⟩))) w'') → Calls Tryz.prog 23 #[dv, .string k, .string v] w' R
  near : ∀ (R : Ending → World → Prop) w' k ok vp l, Below w.heap.size w w' → SetP w' ok vp (marksN l) (marksS l) → (∀ k, ok k → k < w'.heap.size) → (∀ s b ws w'', Below w'.heap.size w' w'' → w'.heap.size ≤ s → w'.heap.size ≤ b → SetIn w'' s b 512 ws → natI (mems 512 ws) = rRankedL d k l 5 0 → R (.returned (.pointer (some ⟨s, 0, none⟩))) w'') → Calls Tryz.prog 26 #[dv, .string k, vp] w' R
  ranked : ∀ (R : Ending → World → Prop) w' k ok vp l c n, Below w.heap.size w w' → SetP w' ok vp (marksN l) (marksS l) → (∀ k, ok k → k < w'.heap.size) → (∀ s b ws w'', Below w'.heap.size w' w'' → w'.heap.size ≤ s → w'.heap.size ≤ b → SetIn w'' s b 512 ws → natI (mems 512 ws) = rRankedL d k l c n → R (.returned (.pointer (some ⟨s, 0, none⟩))) w'') → Calls Tryz.prog 28 #[dv, .string k, vp, .int .i64 c, .int .i64 n] w' R
theorem Asked.below {w w' : World} {dv : Value} {d : RDom} (Q : Asked w dv d) (h : Below w.heap.size w w') : Asked w' dv d where
  keys := fun R w2 h2 k => Q.keys R w2 (h.trans (h2.mono h.size)) k
  values := fun R w2 key h2 k => Q.values R w2 key (h.trans (h2.mono h.size)) k
  tally := fun R w2 key ok vp l h2 h3 h4 k => Q.tally R w2 key ok vp l (h.trans (h2.mono h.size)) h3 h4 k
  of := fun R w2 key s h2 k => Q.of R w2 key s (h.trans (h2.mono h.size)) k
  count := fun R w2 a b c e h2 k => Q.count R w2 a b c e (h.trans (h2.mono h.size)) k
  nodes := fun R w2 a b h2 k => Q.nodes R w2 a b (h.trans (h2.mono h.size)) k
  pods := fun R w2 a b h2 k => Q.pods R w2 a b (h.trans (h2.mono h.size)) k
  near := fun R w2 key ok vp l h2 h3 h4 k => Q.near R w2 key ok vp l (h.trans (h2.mono h.size)) h3 h4 k
  ranked := fun R w2 key ok vp l c n h2 h3 h4 k => Q.ranked R w2 key ok vp l c n (h.trans (h2.mono h.size)) h3 h4 k
theorem marks_ok (l : List Int) : marksN l = 0 ∨ marksN l = 2048 := by
  unfold marksN
  split
  · exact .inl rfl
  · exact .inr rfl
/-- Near asks Ranked for more than 0; the reference for 1 or more. -/
theorem stands_near (a : Nat) : standsB (a : Int) 5 0 = standsB (a : Int) 6 1 := by
  simp only [standsB]
  simp
  omega
theorem rRanked_near (d : RDom) (key : ByteArray) (l : List Int) : rRankedL d key l 5 0 = rRankedL d key l 6 1 := by
  unfold rRankedL
  refine congrArg (fun f => d.nodes.flatMap f) ?_
  funext x
  unfold rankRow
  cases getB x.labels key with
  | none => rfl
  | some v =>
    simp only
    refine congrArg _ (List.filter_congr fun r hr => ?_)
    rw [rTallyL_eq] at hr
    obtain ⟨u, _, rfl⟩ := List.mem_map.1 hr
    simp only [stands_near]
/-- A nil Domains answers as the empty lists. -/
theorem Asked.nil (w : World) : Asked w (.pointer none) ⟨[], []⟩ where
  keys := fun R w' _ k => keysNil_k R w' (k _ _ (Below.refl _ _) (by exact SlK.nil))
  values := fun R w' key _ k => valuesNil_r R w' key (fun B1 B2 w'' hb hr => k B1 B2 [] [] w'' hb hr rfl (by simp) rfl)
  tally := fun R w' key ok vp l _ _ _ k => tallyNil_r R w' key vp (fun B1 B2 w'' hb hr => k B1 B2 [] [] w'' hb hr rfl (by simp) rfl)
  of := fun R w' key s _ k => ofNil_k R w' key s (k w' (Below.refl _ _))
  count := fun R w' a b c e _ k => countNil_k R w' a b c e (k w' (Below.refl _ _))
  nodes := fun R w' a b _ k => nodesNil_k R w' a b (fun s b ws w'' h1 h2 h3 h4 h5 => k s b ws w'' h1 h2 h3 h4 (by
    have : mems 512 ws = [] := List.filter_eq_nil_iff.2 fun i hi => by rw [h5 i (List.mem_range.1 hi)]; simp
    rw [this]; rfl))
  pods := fun R w' a b _ k => podsNil_k R w' a b (fun s b ws w'' h1 h2 h3 h4 h5 => k s b ws w'' h1 h2 h3 h4 (by
    have : mems 2048 ws = [] := List.filter_eq_nil_iff.2 fun i hi => by rw [h5 i (List.mem_range.1 hi)]; simp
    rw [this]; rfl))
  near := fun R w' key ok vp l _ _ _ k => nearNil_k R w' key vp (fun s b w'' h1 h2 h3 h4 => k s b _ w'' h1 h2 h3 h4 (by rw [mems_zero]; rfl))
  ranked := fun R w' key ok vp l c n _ _ _ k => rankedNil_k R w' key vp c n (fun s b w'' h1 h2 h3 h4 => k s b _ w'' h1 h2 h3 h4 (by rw [mems_zero]; rfl))
theorem marksS_len (l : List Int) : True := trivial
/-- A Domains that tells the same as the lists answers as they. -/
theorem Asked.dom {w : World} {h : Hdr} {own : Own'} {S : St} {d : RDom} (D : DomAt w h own S) (T : Tells d S) (F : Fit d) : Asked w (.pointer (some ⟨h.d, 0, none⟩)) d where
  keys := fun R w' hb k => keys_d R w' h own S (D.below hb) (fun x hx => T.key_size F hx) (fun ks hn hk => T.keys_num F hn hk) (fun v ks w'' h1 h2 h3 h4 => k v w'' h1 (by rw [← T.keysQ h2 h3]; exact h4))
  values := fun R w' key hb k => values_r R w' h own S key (D.below hb) (fun x hx => T.val_size F hx) (fun ks hn hk => T.vals_num hn hk) (fun B1 B2 ks w'' h1 h2 h3 h4 => k B1 B2 _ _ w'' h1 h4 (by simp) (by
    have := T.vals_num h2 (fun x hx => (h3 x).1 hx)
    simp [sortedK, List.length_mergeSort]; exact this) (T.valuesQ h2 h3))
  tally := fun R w' key ok vp l hb hp hok k => tally_r R w' h own S key ok vp (marksN l) (marksS l) (D.below hb) hp hok (marks_ok l) (fun x hx => T.val_size F hx) (fun ks hn hk => T.vals_num hn hk) (fun B1 B2 ks w'' h1 h2 h3 h4 => k B1 B2 _ _ w'' h1 h4 (by simp) (by
    have := T.vals_num h2 (fun x hx => (h3 x).1 hx)
    simp [sortedK, List.length_mergeSort]; exact this) (T.tallyQ h2 h3 l))
  of := fun R w' key s hb k => of_d R w' h own S key s (D.below hb) (by
    unfold nodeL
    rw [T.nodes]
    cases e : rNodeAt d s with
    | none => simp
    | some x => have := (F.nl x (T.nodeAt e).1).1; simp; omega) (fun w'' h1 => by rw [T.of]; exact k w'' h1)
  count := fun R w' a b c e hb k => count_q R w' h own S a b c e (D.below hb) (by rw [T.countQ]; exact k w' (Below.refl _ _))
  nodes := fun R w' a b hb k => nodes_d R w' h own S a b (D.below hb) (fun s b ws w'' h1 h2 h3 h4 h5 => k s b ws w'' h1 h2 h3 h4 (T.nodesQ _ _ h5))
  pods := fun R w' a b hb k => pods_d R w' h own S a b (D.below hb) (fun s b ws w'' h1 h2 h3 h4 h5 => k s b ws w'' h1 h2 h3 h4 (T.podsQ _ _ h5))
  near := fun R w' key ok vp l hb hp hok k => near_d R w' h own S key ok vp (marksN l) (marksS l) (D.below hb) hp hok (marks_ok l) (fun x hx => T.val_size F hx) (fun ks hn hk => T.vals_num hn hk) (fun s b ks w'' h1 h2 h3 h4 h5 h6 => k s b _ w'' h1 h2 h3 h6 (T.rankedQ h4 h5 l 5 0))
  ranked := fun R w' key ok vp l c n hb hp hok k => ranked_d R w' h own S key ok vp (marksN l) (marksS l) c n (D.below hb) hp hok (marks_ok l) (fun x hx => T.val_size F hx) (fun ks hn hk => T.vals_num hn hk) (fun s b ks w'' h1 h2 h3 h4 h5 h6 => k s b _ w'' h1 h2 h3 h6 (T.rankedQ h4 h5 l c n))
theorem Sized.of {S : St} {d : RDom} (T : Tells d S) (F : Fit d) : Sized d := ⟨T.nodes_len, T.pods_len, fun x hx => (F.nl x hx).1, F.pl⟩
end Go.Proofs.YtmenipaibjifiaaGreatDoor
