/-
berthref03.Rise: over labels whose keys are unlike: they in their order.
berthref02.Rising, over items whose names are unlike and not empty: those whose amount is not 0, in their order; berthref02.Make.
berthref02.Make.
A slice's room: its cells up to its capacity are there and may be written. SlR: a slice that reads as a list (SlK) and has its room. Plain lemmas; no program is walked.
berthref03.Make.
-/
import Derived.Test.YtdceflgemhcgcaaGreatDoorP13
import Derived.Test.YtdceflgemhcgcaaGreatDoorP16
import Derived.Deep.QuietTactic
import Derived.BigQuiet
import Derived.Test.YtdceflgemhcgcaaGreatDoorP11
import Derived.Test.YtdceflgemhcgcaaGreatDoorP12
set_option linter.unusedVariables false
set_option linter.unusedSimpArgs false
namespace Go.Proofs.YtdceflgemhcgcaaGreatDoor
open Go.RowKit Go.BigFrame

set_option maxRecDepth 100000 in
set_option maxHeartbeats 8000000 in
theorem rrise_k (R : Ending → World → Prop) (w : World) (ok : Nat → Prop) (v : Value) (xs : List Lab) (hok : ∀ k, ok k → k < w.heap.size) (hx : SlK labK 2 w ok v xs) (hl : xs.length ≤ 1048576) (hd : Dist ltL xs)
    (hR : ∀ v' w', Below w.heap.size w w' → SlK labK 2 w' (fun k => w.heap.size ≤ k) v' (srt ltL xs) → R (.returned v') w') :
    Calls Tryz.prog 139 #[v] w R := by
  obtain ⟨A, c, rfl, hlc, _⟩ := hx.form
  have HR := Lib.hid hR
  have HX := Lib.hid hx
  have HOK := Lib.hid hok
  have HD := Lib.hid hd
  have HLS := Lib.hid (show (srt ltL xs).length = xs.length from srt_length)
  clear hR hx hok hd
  go_enter Tryz.func139, Tryz.ntmps139
  go_wp2_with fail
  go_loopw [3] (fun out wr => ∃ m : Nat, m ≤ xs.length ∧ Below w.heap.size w wr ∧ OwnK labK 2 118 wr w.heap.size (fun _ => False) out ((srt ltL xs).take m) ∧ m = (match out with | .slice _ n _ => n | _ => 0)) (fun out _ => xs.length - (match out with | .slice _ n _ => n | _ => 0))
  case atStart => exact ⟨0, Nat.zero_le _, Below.refl _ _, by rw [List.take_zero]; exact OwnK.nil (fun _ h => h.elim), rfl⟩
  case round =>
    obtain ⟨m, hm, hB, hO, hmo⟩ := hrel
    obtain ⟨A1, c1, ho, hc1⟩ := hO.slice
    subst ho
    have hml : ((srt ltL xs).take m).length = m := by rw [List.length_take, HLS.out]; omega
    rw [hml] at hO hc1
    rw [hml]
    have HBo := Lib.hid hB
    have HO := Lib.hid hO
    clear hB hO hmo hml
    by_cases hlm : m < xs.length
    · go_wp2_with fail
      go_loopw [4, 5] (fun best i wr2 => ∃ k : Nat, k ≤ xs.length ∧ i = .int .i64 k ∧ Below wr.heap.size wr wr2 ∧ ∃ bi : Int, best = .int .i64 bi ∧ BestAt ltL (elS ltL xs m) xs k bi) (fun _ i _ => xs.length - (intOf i).toNat)
      case atStart => exact ⟨0, Nat.zero_le _, rfl, Below.refl _ _, -1, rfl, BestAt.zero⟩
      case round =>
        obtain ⟨i, hi, rfl, hB, bi, rfl, hba⟩ := hrel
        have HB2 := Lib.hid hB
        have HB := Lib.hid (HBo.out.trans (hB.mono HBo.out.size))
        have HBA := Lib.hid hba
        clear hB hba
        by_cases hlt : i < xs.length
        · obtain ⟨b, off, c2, he, _, _, bk, bl, hce⟩ := (HX.out.below labOk HB.out HOK.out).addr (by omega)
          simp only [Value.slice.injEq] at he
          obtain ⟨he, -, hec⟩ := he
          cases he
          cases hec
          obtain ⟨y0, y1⟩ := lab_cells hce i hlt
          obtain ⟨s, hs⟩ : ∃ s, xs[i]'hlt = s := ⟨_, rfl⟩
          rw [hs] at y0 y1
          have HEs := Lib.hid hs
          clear hce hs
          by_cases hm0 : m = 0
          · have HEL := Lib.hid (show elS ltL xs m s = true by rw [hm0]; rfl)
            have hg0 : decide (0 < m) = false := by rw [hm0]; rfl
            go_wp2_with fail
            go_quiet (fail)
            go_wp2_with fail
            rcases HBA.out.cases with hbb | ⟨bb, hbb0, hbb⟩
            · subst hbb
              have HQ := Lib.hid (HBA.out.first ordL (by decide) hlt (by rw [HEs.out]; exact HEL.out))
              go_quiet (fail)
              go_wp2_with fail
              go_roundw
              case rel => exact ⟨i + 1, by omega, by go_num, by first | exact HB2.out | exact below_drewN HB2.out _, _, rfl, HQ.out⟩
              case measure => simp [intOf]; omega
            · subst hbb
              obtain ⟨b2, off2, c2, he, _, _, b2k, b2l, hce⟩ := (HX.out.below labOk HB.out HOK.out).addr (by omega)
              simp only [Value.slice.injEq] at he
              obtain ⟨he, -, hec⟩ := he
              cases he
              cases hec
              obtain ⟨z0, z1⟩ := lab_cells hce bb hbb0
              obtain ⟨u, hu⟩ : ∃ s, xs[bb]'hbb0 = s := ⟨_, rfl⟩
              rw [hu] at z0 z1
              have HEu := Lib.hid hu
              clear hce hu
              have hb0 : decide ((bb : Int) < 0) = false := by simp
              cases e3 : Op.bytesLess s.key.toList u.key.toList with
              | true =>
                have HQ := Lib.hid (HBA.out.less ordL hbb0 hlt (by rw [HEs.out]; exact HEL.out) (by rw [HEs.out, HEu.out]; exact e3))
                go_quiet (fail)
                go_wp2_with fail
                go_roundw
                case rel => exact ⟨i + 1, by omega, by go_num, by first | exact HB2.out | exact below_drewN HB2.out _, _, rfl, HQ.out⟩
                case measure => simp [intOf]; omega
              | false =>
                have HQ := Lib.hid (HBA.out.keep hbb0 hlt (by rw [HEs.out, HEu.out]; exact e3))
                go_quiet (fail)
                go_wp2_with fail
                go_roundw
                case rel => exact ⟨i + 1, by omega, by go_num, by first | exact HB2.out | exact below_drewN HB2.out _, _, rfl, HQ.out⟩
                case measure => simp [intOf]; omega
          · have hsl := (HO.out.move labOk (fun j hj _ => HB2.out.block j hj) HB2.out.size).slk labOk
            have hm1 : m - 1 < ((srt ltL xs).take m).length := by rw [List.length_take, HLS.out]; omega
            have hml : ((srt ltL xs).take m).length = m := by rw [List.length_take, HLS.out]; omega
            obtain ⟨bo, oo, c3, he, _, _, _, _, hce⟩ := hsl.addr (by omega)
            simp only [Value.slice.injEq] at he
            obtain ⟨he, -, hec⟩ := he
            cases he
            cases hec
            obtain ⟨p0, p1⟩ := lab_cells hce (m - 1) hm1
            obtain ⟨p, hp⟩ : ∃ p, ((srt ltL xs).take m)[m - 1]'hm1 = p := ⟨_, rfl⟩
            rw [hp] at p0 p1
            have HP := Lib.hid (show (srt ltL xs)[m - 1]? = some p by rw [← hp, List.getElem_take, List.getElem?_eq_getElem])
            clear hce hp hsl hml
            have hg0 : decide (0 < m) = true := by simp; omega
            have hsub : IntKind.i64.wrap ((m : Int) - 1) = ((m - 1 : Nat) : Int) := by
              rw [show ((m : Int) - 1) = ((m - 1 : Nat) : Int) by omega]
              exact IntWalk.i64_in _ (by omega)
            cases e1 : Op.bytesLess s.key.toList p.key.toList with
            | true =>
              have HQ := Lib.hid (HBA.out.skip hlt (by rw [HEs.out, elS_at hm0 HP.out]; exact ltB_asymm e1))
              go_wp2_with fail
              go_quiet (fail)
              go_wp2_with fail
              go_roundw
              case rel => exact ⟨i + 1, by omega, by go_num, by first | exact HB2.out | exact below_drewN HB2.out _, _, rfl, HQ.out⟩
              case measure => simp [intOf]; omega
            | false =>
              cases e2 : (s.key.toList == p.key.toList) with
              | true =>
                have HQ := Lib.hid (HBA.out.skip hlt (by rw [HEs.out, elS_at hm0 HP.out]; unfold ltL; rw [ba_toList_inj.1 (eq_of_beq e2)]; exact ltB_irrefl _))
                go_wp2_with fail
                go_quiet (fail)
                go_wp2_with fail
                go_roundw
                case rel => exact ⟨i + 1, by omega, by go_num, by first | exact HB2.out | exact below_drewN HB2.out _, _, rfl, HQ.out⟩
                case measure => simp [intOf]; omega
              | false =>
                have HEL := Lib.hid (show elS ltL xs m s = true by
                  rw [elS_at hm0 HP.out]
                  rcases ltB_tri s.key p.key with h | h | h
                  · unfold ltB at h; rw [e1] at h; cases h
                  · rw [h] at e2; simp at e2
                  · exact h)
                go_wp2_with fail
                go_quiet (fail)
                go_wp2_with fail
                rcases HBA.out.cases with hbb | ⟨bb, hbb0, hbb⟩
                · subst hbb
                  have HQ := Lib.hid (HBA.out.first ordL (by decide) hlt (by rw [HEs.out]; exact HEL.out))
                  go_quiet (fail)
                  go_wp2_with fail
                  go_roundw
                  case rel => exact ⟨i + 1, by omega, by go_num, by first | exact HB2.out | exact below_drewN HB2.out _, _, rfl, HQ.out⟩
                  case measure => simp [intOf]; omega
                · subst hbb
                  obtain ⟨b2, off2, c2, he, _, _, b2k, b2l, hce⟩ := (HX.out.below labOk HB.out HOK.out).addr (by omega)
                  simp only [Value.slice.injEq] at he
                  obtain ⟨he, -, hec⟩ := he
                  cases he
                  cases hec
                  obtain ⟨z0, z1⟩ := lab_cells hce bb hbb0
                  obtain ⟨u, hu⟩ : ∃ s, xs[bb]'hbb0 = s := ⟨_, rfl⟩
                  rw [hu] at z0 z1
                  have HEu := Lib.hid hu
                  clear hce hu
                  have hb0 : decide ((bb : Int) < 0) = false := by simp
                  cases e3 : Op.bytesLess s.key.toList u.key.toList with
                  | true =>
                    have HQ := Lib.hid (HBA.out.less ordL hbb0 hlt (by rw [HEs.out]; exact HEL.out) (by rw [HEs.out, HEu.out]; exact e3))
                    go_quiet (fail)
                    go_wp2_with fail
                    go_roundw
                    case rel => exact ⟨i + 1, by omega, by go_num, by first | exact HB2.out | exact below_drewN HB2.out _, _, rfl, HQ.out⟩
                    case measure => simp [intOf]; omega
                  | false =>
                    have HQ := Lib.hid (HBA.out.keep hbb0 hlt (by rw [HEs.out, HEu.out]; exact e3))
                    go_quiet (fail)
                    go_wp2_with fail
                    go_roundw
                    case rel => exact ⟨i + 1, by omega, by go_num, by first | exact HB2.out | exact below_drewN HB2.out _, _, rfl, HQ.out⟩
                    case measure => simp [intOf]; omega
        · obtain rfl : i = xs.length := by omega
          obtain ⟨bb, hbb, rfl, hSm⟩ := HBA.out.done ordL HD.out hlm (elS_elig m)
          have HSM := Lib.hid hSm
          clear hSm
          obtain ⟨b, off, c2, he, _, _, bk, bl, hce⟩ := (HX.out.below labOk HB.out HOK.out).addr (by omega)
          simp only [Value.slice.injEq] at he
          obtain ⟨he, -, hec⟩ := he
          cases he
          cases hec
          obtain ⟨y0, y1⟩ := lab_cells hce bb hbb
          obtain ⟨s, hs⟩ : ∃ s, xs[bb]'hbb = s := ⟨_, rfl⟩
          rw [hs] at y0 y1
          have HEs := Lib.hid hs
          clear hce hs
          have HO2 := Lib.hid (HO.out.move labOk (fun j hj _ => HB2.out.block j hj) HB2.out.size)
          go_wp2_with (at_builtin; refine append_k labOk rfl _ _ 22 118 (.agg #[.string ⟨#[]⟩, .string ⟨#[]⟩]) 32 w.heap.size (fun _ => False) rfl Tryz.underlying22 infoLab rfl (by decide) (by decide) (.slice A1 m c1) ((srt ltL xs).take m) s #[.string s.key, .string s.val] rfl rfl ?c1 HO2.out rfl HB.out.size ?c3 ?_)
          case c1 => first | exact ⟨rfl, rfl⟩ | (intro u hu; simp at hu; rcases hu with rfl | rfl <;> rfl)
          case c3 => simp only [List.length_take]; omega
          intro v7 w7 hO7 hg7 _
          have HB7 := Lib.hid (HB.out.grown hg7 HB.out.size (fun j h => (HO2.out.own j h).1))
          have HO7 := Lib.hid (show OwnK labK 2 118 w7 w.heap.size (fun _ => False) v7 ((srt ltL xs).take (m + 1)) by
            have e : (srt ltL xs).take (m + 1) = (srt ltL xs).take m ++ [s] := by
              rw [List.take_add_one, HSM.out, HEs.out]; rfl
            rw [e]; exact hO7)
          clear hO7 hg7
          obtain ⟨A7, c7, hv7, hc7⟩ := HO7.out.slice
          have hml : ((srt ltL xs).take (m + 1)).length = m + 1 := by rw [List.length_take, HLS.out]; omega
          rw [hml] at hv7
          subst hv7
          clear hml
          go_wp2_with fail
          go_roundw
          case rel => exact ⟨m + 1, by omega, HB7.out, HO7.out, rfl⟩
          case measure => show xs.length - (m + 1) < xs.length - m; omega
    · obtain rfl : m = xs.length := by omega
      have hv := HR.out _ wr HBo.out (by
        have h := HO.out.slk labOk
        rw [List.take_of_length_le (by rw [HLS.out]; exact Nat.le_refl _)] at h
        exact h.mono labOk (fun j hj => hj.elim (fun f => f.elim) (fun h => (HO.out.own j h).1)))
      clear hlm hm
      go_wp2_with fail
      exact hv
end Go.Proofs.YtdceflgemhcgcaaGreatDoor

namespace Go.Proofs.YtdceflgemhcgcaaGreatDoor
open Go.RowKit Go.BigFrame

/-- The name of the last that was picked. -/
def LastI (S : List Itm) (m : Nat) (l : ByteArray) : Prop := (m = 0 ∧ l = ⟨#[]⟩) ∨ (m ≠ 0 ∧ ∃ p, S[m - 1]? = some p ∧ l = p.name)
theorem ltB_empty {b : ByteArray} (h : b.toList ≠ []) : ltB ⟨#[]⟩ b = true := by
  unfold ltB
  rw [show (ByteArray.mk #[]).toList = [] by simp]
  cases e : b.toList with
  | nil => exact absurd e h
  | cons x y => rfl
theorem LastI.elig {xs : List Itm} {m : Nat} {l : ByteArray} (h : LastI (srt ltI xs) m l) (hne : ∀ x ∈ xs, x.name.toList ≠ []) : Elig ltI (fun x => ltB l x.name) xs m := by
  intro x hx
  rcases h with ⟨rfl, rfl⟩ | ⟨h0, p, hp, rfl⟩
  · exact ⟨fun _ => .inl rfl, fun _ => ltB_empty (hne x hx)⟩
  · constructor
    · exact fun h => .inr ⟨p, hp, h⟩
    · rintro (h | ⟨p', hp', h⟩)
      · exact absurd h h0
      · rw [hp] at hp'; cases hp'; exact h
set_option maxRecDepth 100000 in
set_option maxHeartbeats 8000000 in
theorem rrising_k (R : Ending → World → Prop) (w : World) (ok : Nat → Prop) (v : Value) (xs : List Itm) (hok : ∀ k, ok k → k < w.heap.size) (hx : SlK itmK 2 w ok v xs) (hl : xs.length ≤ 1048576) (hd : Dist ltI xs) (hne : ∀ x ∈ xs, x.name.toList ≠ [])
    (hR : ∀ v' w', Below w.heap.size w w' → SlK itmK 2 w' (fun k => w.heap.size ≤ k) v' ((srt ltI xs).filter nzI) → R (.returned v') w') :
    Calls Tryz.prog 145 #[v] w R := by
  obtain ⟨A, c, rfl, hlc, _⟩ := hx.form
  have HR := Lib.hid hR
  have HX := Lib.hid hx
  have HOK := Lib.hid hok
  have HD := Lib.hid hd
  have HNE := Lib.hid hne
  have HLS := Lib.hid (show (srt ltI xs).length = xs.length from srt_length)
  have HO1 := Lib.hid (show OwnK itmK 2 110 (w.alloc (.cells #[] 110)) w.heap.size (fun _ => False) (.slice (some ⟨w.heap.size, 0, none⟩) 0 0) ([] : List Itm) from OwnK.made (fun _ h => h.elim) (Nat.le_refl _) (by simp [maxLen]) rfl)
  have HB1 := Lib.hid (show Below w.heap.size w (w.alloc (.cells #[] 110)) from Below.alloc (Below.refl _ _) (Nat.le_refl _) _)
  clear hR hx hok hd hne
  go_enter Tryz.func145, Tryz.ntmps145
  go_wp2_with fail
  go_loopw [3, 4, 10] (fun out last r wr => ∃ m : Nat, m ≤ xs.length ∧ r = .int .i64 m ∧ Below w.heap.size w wr ∧ OwnK itmK 2 110 wr w.heap.size (fun _ => False) out (((srt ltI xs).take m).filter nzI) ∧ ∃ l, last = .string l ∧ LastI (srt ltI xs) m l) (fun _ _ r _ => xs.length - (intOf r).toNat)
  case atStart => exact ⟨0, Nat.zero_le _, rfl, HB1.out, HO1.out, _, rfl, .inl ⟨rfl, rfl⟩⟩
  case round =>
    obtain ⟨m, hm, rfl, hB, hO, l, rfl, hla⟩ := hrel
    have HBo := Lib.hid hB
    have HO := Lib.hid hO
    have HLA := Lib.hid hla
    have hpl : (((srt ltI xs).take m).filter nzI).length ≤ 1048576 := Nat.le_trans (List.length_filter_le _ _) (by rw [List.length_take]; omega)
    clear hB hO hla
    by_cases hlm : m < xs.length
    · go_wp2_with fail
      go_loopw [5, 6] (fun best i wr2 => ∃ k : Nat, k ≤ xs.length ∧ i = .int .i64 k ∧ Below wr.heap.size wr wr2 ∧ ∃ bi : Int, best = .int .i64 bi ∧ BestAt ltI (fun x => ltB l x.name) xs k bi) (fun _ i _ => xs.length - (intOf i).toNat)
      case atStart => exact ⟨0, Nat.zero_le _, rfl, Below.refl _ _, -1, rfl, BestAt.zero⟩
      case round =>
        obtain ⟨i, hi, rfl, hB, bi, rfl, hba⟩ := hrel
        have HB2 := Lib.hid hB
        have HB := Lib.hid (HBo.out.trans (hB.mono HBo.out.size))
        have HBA := Lib.hid hba
        clear hB hba
        by_cases hlt : i < xs.length
        · obtain ⟨b, off, c2, he, _, _, bk, bl, hce⟩ := (HX.out.below itmOk HB.out HOK.out).addr (by omega)
          simp only [Value.slice.injEq] at he
          obtain ⟨he, -, hec⟩ := he
          cases he
          cases hec
          obtain ⟨y0, y1⟩ := ritems_k_cells hce i hlt
          obtain ⟨s, hs⟩ : ∃ s, xs[i]'hlt = s := ⟨_, rfl⟩
          rw [hs] at y0 y1
          have HEs := Lib.hid hs
          clear hce hs
          cases e1 : Op.bytesLess s.name.toList l.toList with
          | true =>
            have HQ := Lib.hid (HBA.out.skip hlt (by rw [HEs.out]; exact ltB_asymm e1))
            go_wp2_with fail
            go_quiet (fail)
            go_wp2_with fail
            go_roundw
            case rel => exact ⟨i + 1, by omega, by go_num, by first | exact HB2.out | exact below_drewN HB2.out _, _, rfl, HQ.out⟩
            case measure => simp [intOf]; omega
          | false =>
            cases e2 : (s.name.toList == l.toList) with
            | true =>
              have HQ := Lib.hid (HBA.out.skip hlt (by rw [HEs.out]; show ltB l s.name = false; rw [ba_toList_inj.1 (eq_of_beq e2)]; exact ltB_irrefl _))
              go_wp2_with fail
              go_quiet (fail)
              go_wp2_with fail
              go_roundw
              case rel => exact ⟨i + 1, by omega, by go_num, by first | exact HB2.out | exact below_drewN HB2.out _, _, rfl, HQ.out⟩
              case measure => simp [intOf]; omega
            | false =>
              have HEL := Lib.hid (show ltB l s.name = true by
                rcases ltB_tri s.name l with h | h | h
                · unfold ltB at h; rw [e1] at h; cases h
                · rw [h] at e2; simp at e2
                · exact h)
              rcases HBA.out.cases with hbb | ⟨bb, hbb0, hbb⟩
              · subst hbb
                have HQ := Lib.hid (HBA.out.first ordI (by decide) hlt (by rw [HEs.out]; exact HEL.out))
                go_wp2_with fail
                go_quiet (fail)
                go_wp2_with fail
                go_roundw
                case rel => exact ⟨i + 1, by omega, by go_num, by first | exact HB2.out | exact below_drewN HB2.out _, _, rfl, HQ.out⟩
                case measure => simp [intOf]; omega
              · subst hbb
                obtain ⟨b2, off2, c2, he, _, _, b2k, b2l, hce⟩ := (HX.out.below itmOk HB.out HOK.out).addr (by omega)
                simp only [Value.slice.injEq] at he
                obtain ⟨he, -, hec⟩ := he
                cases he
                cases hec
                obtain ⟨z0, z1⟩ := ritems_k_cells hce bb hbb0
                obtain ⟨u, hu⟩ : ∃ s, xs[bb]'hbb0 = s := ⟨_, rfl⟩
                rw [hu] at z0 z1
                have HEu := Lib.hid hu
                clear hce hu
                have hb0 : decide ((bb : Int) < 0) = false := by simp
                cases e3 : Op.bytesLess s.name.toList u.name.toList with
                | true =>
                  have HQ := Lib.hid (HBA.out.less ordI hbb0 hlt (by rw [HEs.out]; exact HEL.out) (by rw [HEs.out, HEu.out]; exact e3))
                  go_wp2_with fail
                  go_quiet (fail)
                  go_wp2_with fail
                  go_roundw
                  case rel => exact ⟨i + 1, by omega, by go_num, by first | exact HB2.out | exact below_drewN HB2.out _, _, rfl, HQ.out⟩
                  case measure => simp [intOf]; omega
                | false =>
                  have HQ := Lib.hid (HBA.out.keep hbb0 hlt (by rw [HEs.out, HEu.out]; exact e3))
                  go_wp2_with fail
                  go_quiet (fail)
                  go_wp2_with fail
                  go_roundw
                  case rel => exact ⟨i + 1, by omega, by go_num, by first | exact HB2.out | exact below_drewN HB2.out _, _, rfl, HQ.out⟩
                  case measure => simp [intOf]; omega
        · obtain rfl : i = xs.length := by omega
          obtain ⟨bb, hbb, rfl, hSm⟩ := HBA.out.done ordI HD.out hlm (HLA.out.elig HNE.out)
          have HSM := Lib.hid hSm
          clear hSm
          obtain ⟨b, off, c2, he, _, _, bk, bl, hce⟩ := (HX.out.below itmOk HB.out HOK.out).addr (by omega)
          simp only [Value.slice.injEq] at he
          obtain ⟨he, -, hec⟩ := he
          cases he
          cases hec
          obtain ⟨y0, y1⟩ := ritems_k_cells hce bb hbb
          obtain ⟨s, hs⟩ : ∃ s, xs[bb]'hbb = s := ⟨_, rfl⟩
          rw [hs] at y0 y1
          have HEs := Lib.hid hs
          clear hce hs
          have HO2 := Lib.hid (HO.out.move itmOk (fun j hj _ => HB2.out.block j hj) HB2.out.size)
          have htk : (srt ltI xs).take (m + 1) = (srt ltI xs).take m ++ [s] := by
            rw [List.take_add_one, HSM.out, HEs.out]; rfl
          have HLA2 := Lib.hid (show LastI (srt ltI xs) (m + 1) s.name from .inr ⟨by omega, s, by rw [Nat.add_sub_cancel, HSM.out, HEs.out], rfl⟩)
          by_cases h0 : s.n = 0
          · have HO7 := Lib.hid (show OwnK itmK 2 110 wr w.heap.size (fun _ => False) u3 (((srt ltI xs).take (m + 1)).filter nzI) by
              rw [htk, List.filter_append, List.filter_cons_of_neg (show ¬ nzI s = true by unfold nzI; simp [h0]), List.filter_nil, List.append_nil]; exact HO2.out)
            clear htk
            rw [h0] at y1
            go_wp2_with fail
            go_roundw
            case rel => exact ⟨m + 1, by omega, by go_num, HB.out, HO7.out, _, rfl, HLA2.out⟩
            case measure => simp [intOf]; omega
          · have HF := Lib.hid (show ((srt ltI xs).take (m + 1)).filter nzI = ((srt ltI xs).take m).filter nzI ++ [s] by
              rw [htk, List.filter_append, List.filter_cons_of_pos (show nzI s = true by unfold nzI; simpa using h0), List.filter_nil])
            clear htk
            go_wp2_with (at_builtin; refine append_k itmOk rfl _ _ 24 110 (.agg #[.string ⟨#[]⟩, .int .i64 0]) 24 w.heap.size (fun _ => False) rfl Tryz.underlying24 infoItm rfl (by decide) (by decide) u3 (((srt ltI xs).take m).filter nzI) s #[.string s.name, .int .i64 s.n] rfl rfl ?c1 HO2.out rfl HB.out.size ?c3 ?_)
            case c1 => first | exact ⟨rfl, rfl⟩ | (intro u hu; simp at hu; rcases hu with rfl | rfl <;> rfl)
            case c3 => omega
            intro v7 w7 hO7 hg7 _
            have HB7 := Lib.hid (HB.out.grown hg7 HB.out.size (fun j h => (HO2.out.own j h).1))
            have HO7 := Lib.hid (show OwnK itmK 2 110 w7 w.heap.size (fun _ => False) v7 (((srt ltI xs).take (m + 1)).filter nzI) by rw [HF.out]; exact hO7)
            clear hO7 hg7 y0 y1
            go_wp2_with fail
            go_roundw
            case rel => exact ⟨m + 1, by omega, by go_num, HB7.out, HO7.out, _, rfl, HLA2.out⟩
            case measure => simp [intOf]; omega
    · obtain rfl : m = xs.length := by omega
      have hv := HR.out _ wr HBo.out (by
        have h := HO.out.slk itmOk
        rw [List.take_of_length_le (by rw [HLS.out]; exact Nat.le_refl _)] at h
        exact h.mono itmOk (fun j hj => hj.elim (fun f => f.elim) (fun h => (HO.out.own j h).1)))
      clear hlm hm
      go_wp2_with fail
      exact hv
end Go.Proofs.YtdceflgemhcgcaaGreatDoor

namespace Go.Proofs.YtdceflgemhcgcaaGreatDoor
open Go.RowKit Go.BigFrame

theorem itemB_ne {s : ByteArray} (h : itemB s = true) : s.toList ≠ [] := by
  unfold itemB at h
  simp only [Bool.and_eq_true, decide_eq_true_eq] at h
  intro e
  rw [Lib.toList_data] at e
  have h1 : s.data.size = 0 := by rw [← Array.length_toList, e]; rfl
  have h2 : s.size = s.data.size := rfl
  omega
theorem plcI_dup {xs : List Itm} {i : Nat} (hi : i < xs.length) : (dupAt itmE xs i = true → plcI xs (xs[i]'hi).name < (i : Int)) ∧ (dupAt itmE xs i = false → plcI xs (xs[i]'hi).name = (i : Int)) := by
  have self : nmE (xs[i]'hi).name (xs[i]'hi) ≠ 0 := by unfold nmE; rw [if_pos rfl]; decide
  constructor
  · intro h
    unfold dupAt at h
    rw [List.getElem?_eq_getElem hi] at h
    simp only [List.any_eq_true] at h
    obtain ⟨y, hy, hk⟩ := h
    obtain ⟨j, hj, rfl⟩ := List.mem_take_iff_getElem.1 hy
    have hjx : j < xs.length := by omega
    have hej : nmE (xs[i]'hi).name (xs[j]'hjx) ≠ 0 := by
      unfold nmE
      unfold itmE at hk
      rw [if_pos (ba_toList_inj.1 (eq_of_beq hk))]
      decide
    have : ∃ q, ∃ hq : q < xs.length, q ≤ j ∧ nmE (xs[i]'hi).name (xs[q]'hq) ≠ 0 ∧ ∀ p (hp : p < xs.length), p < q → nmE (xs[i]'hi).name (xs[p]'hp) = 0 := by
      have go : ∀ n, n ≤ j → (∀ p (hp : p < xs.length), p < n → nmE (xs[i]'hi).name (xs[p]'hp) = 0) ∨ ∃ q, ∃ hq : q < xs.length, q ≤ j ∧ nmE (xs[i]'hi).name (xs[q]'hq) ≠ 0 ∧ ∀ p (hp : p < xs.length), p < q → nmE (xs[i]'hi).name (xs[p]'hp) = 0 := by
        intro n
        induction n with
        | zero => intro _; exact .inl (fun _ _ h => absurd h (Nat.not_lt_zero _))
        | succ n ih =>
          intro hn
          rcases ih (by omega) with h | h
          · by_cases hz : nmE (xs[i]'hi).name (xs[n]'(by omega)) = 0
            · refine .inl (fun p hp hpn => ?_)
              by_cases hpn' : p < n
              · exact h p hp hpn'
              · obtain rfl : p = n := by omega
                exact hz
            · exact .inr ⟨n, by omega, by omega, hz, h⟩
          · exact .inr h
      rcases go j (Nat.le_refl _) with h | h
      · exact ⟨j, hjx, Nat.le_refl _, hej, h⟩
      · exact h
    obtain ⟨q, hq, hqj, h1, h2⟩ := this
    rw [(has_at hq h2 h1).2]
    omega
  · intro h
    refine (has_at hi (fun j hj hji => ?_) self).2
    unfold nmE
    rw [if_neg (fun e => ?_)]
    have := dupAt_true hi hji (show itmE (xs[i]'hi) (xs[j]'hj) = true by unfold itmE; rw [e]; simp)
    rw [h] at this; cases this
theorem itmErr_dist2 {xs : List Itm} (h : ∀ j, j < xs.length → itmErr xs j = 0) : Dist ltI xs ∧ ∀ x ∈ xs, itemB x.name = true := by
  have key : ∀ i, i < xs.length → dupAt itmE xs i = false ∧ ∀ hi : i < xs.length, itemB (xs[i]'hi).name = true := by
    intro i hi
    have h := h i hi
    rw [itmErr_at hi] at h
    by_cases h1 : itemB (xs[i]'hi).name = false
    · rw [if_pos h1] at h; cases h
    · rw [if_neg h1] at h
      refine ⟨?_, fun _ => by simpa using h1⟩
      by_cases h2 : (xs[i]'hi).n < 0
      · rw [if_pos h2] at h; cases h
      · rw [if_neg h2] at h
        cases hq : dupAt itmE xs i with
        | false => rfl
        | true => rw [hq] at h; cases h
  exact ⟨itmE_dist (fun i hi => (key i hi).1), fun x hx => by
    obtain ⟨j, hj, rfl⟩ := List.mem_iff_getElem.1 hx
    exact (key j hj).2 hj⟩
set_option maxRecDepth 100000 in
set_option maxHeartbeats 8000000 in
theorem rqmake_k (R : Ending → World → Prop) (w : World) (ok : Nat → Prop) (v : Value) (xs : List Itm) (hok : ∀ k, ok k → k < w.heap.size) (hx : SlK itmK 2 w ok v xs) (hs : ∀ s ∈ xs, s.name.size ≤ 1048576) (hl : xs.length ≤ 1073741824)
    (hR : ∀ v' w', Below w.heap.size w w' → SlK itmK 2 w' (fun k => w.heap.size ≤ k) v' (itmMake xs).1 → R (.returned (.tuple #[v', .string (itmMake xs).2.1, .int .i64 (itmMake xs).2.2])) w') :
    Calls Tryz.prog 70 #[v] w R := by
  obtain ⟨A, c, rfl, hlc, _⟩ := hx.form
  have HR := Lib.hid hR
  have HS := Lib.hid hs
  have HX := Lib.hid hx
  have HOK := Lib.hid hok
  clear hR hs hx hok
  by_cases h16 : 16 < xs.length
  · have e1 : itmMake xs = ([], ⟨#[]⟩, 27) := by unfold itmMake; rw [if_pos h16]
    have hv := HR.out (.slice none 0 0) w (Below.refl _ _) (by rw [e1]; exact SlK.nil)
    rw [e1] at hv
    have hcast : (16 : Int) < (xs.length : Int) := by omega
    clear e1
    go_enter Tryz.func70, Tryz.ntmps70
    go_wp2_with fail
    exact hv
  · have hcast : ¬ (16 : Int) < (xs.length : Int) := by omega
    have hln : xs.length ≤ 16 := by omega
    go_enter Tryz.func70, Tryz.ntmps70
    go_wp2_with fail
    go_loopw [5] (fun i wr => ∃ k : Nat, k ≤ xs.length ∧ i = .int .i64 k ∧ Below w.heap.size w wr ∧ ∀ j, j < k → itmErr xs j = 0) (fun i _ => xs.length - (intOf i).toNat)
    case atStart => exact ⟨0, Nat.zero_le _, rfl, Below.refl _ _, fun _ h => absurd h (Nat.not_lt_zero _)⟩
    case round =>
      obtain ⟨k, hk, rfl, hB, hz⟩ := hrel
      have HB := Lib.hid hB
      have HZ := Lib.hid hz
      clear hB hz
      by_cases hlt : k < xs.length
      · obtain ⟨b, off, c2, he, _, _, bk, bl, hce⟩ := (HX.out.below itmOk HB.out HOK.out).addr (by omega)
        simp only [Value.slice.injEq] at he
        obtain ⟨he, -, hec⟩ := he
        cases he
        cases hec
        obtain ⟨y0, y1⟩ := ritems_k_cells hce k hlt
        obtain ⟨s, hs⟩ : ∃ s, xs[k]'hlt = s := ⟨_, rfl⟩
        rw [hs] at y0 y1
        have HEs := Lib.hid hs
        clear hce hs
        have fit := HS.out s (by rw [← HEs.out]; exact List.getElem_mem hlt)
        obtain ⟨w3, hw3⟩ : ∃ w3, w3 = wr.alloc (.cells #[.string s.name, .int .i64 s.n] 110) := ⟨_, rfl⟩
        have HB3 := Lib.hid (show Below w.heap.size w w3 by rw [hw3]; exact Below.alloc HB.out HB.out.size _)
        have HX3 := Lib.hid (show w3.heap[wr.heap.size]? = some (.cells #[.string s.name, .int .i64 s.n] 110) by rw [hw3]; exact heap_alloc_new _ _)
        have hs3 : wr.heap.size < w3.heap.size := by rw [hw3]; simp
        have HE := Lib.hid (itmErr_at hlt)
        have HF := Lib.hid (plcI_dup hlt)
        rw [HEs.out] at HE HF
        go_upto_region 7 with fail
        rw [← hw3]
        clear hw3 y0 y1
        have y0 : w3.cell? ⟨wr.heap.size, 0, none⟩ = some (.string s.name) := cell_at HX3.out rfl
        have y1 : w3.cell? ⟨wr.heap.size, 1, none⟩ = some (.int .i64 s.n) := cell_at HX3.out rfl
        go_wp2_with fail
        refine rqname_k _ _ s.name fit ?_
        cases ek : itemB s.name with
        | false =>
          have e0 : itmErr xs k = 24 := by rw [HE.out, ek] <;> rfl
          have e1 := itmMake_bad (by omega) hlt HZ.out (by rw [e0]; decide)
          have hv := fun n => HR.out (.slice none 0 0) (w3.drewN n) (below_drewN HB3.out n) (by rw [e1]; exact SlK.nil)
          rw [e1, e0, HEs.out] at hv
          clear e1 e0 ek
          go_wp2_with fail
          go_quiet (fail)
          go_wp2_with fail
          exact hv _
        | true =>
          by_cases hn : s.n < 0
          · have e0 : itmErr xs k = 26 := by rw [HE.out, ek, if_neg (by decide), if_pos hn] <;> rfl
            have e1 := itmMake_bad (by omega) hlt HZ.out (by rw [e0]; decide)
            have hv := fun n => HR.out (.slice none 0 0) (w3.drewN n) (below_drewN HB3.out n) (by rw [e1]; exact SlK.nil)
            rw [e1, e0, HEs.out] at hv
            clear e1 e0 ek
            go_wp2_with fail
            go_quiet (fail)
            go_wp2_with fail
            exact hv _
          · go_wp2_with fail
            refine rplace_k _ _ ok _ xs s.name (fun j h => Nat.lt_of_lt_of_le (HOK.out j h) HB3.out.size) (HX.out.below itmOk HB3.out HOK.out) hl ?_
            intro w4 g4
            have HB4 := Lib.hid (HB3.out.trans (g4.mono HB3.out.size))
            have z0 := (Mod.of_below g4).cell' y0 (fun h => h)
            clear g4 y0 y1
            obtain ⟨fi, hfi⟩ : ∃ fi, plcI xs s.name = fi := ⟨_, rfl⟩
            rw [hfi] at HF
            rw [hfi]
            clear hfi
            cases hd : dupAt itmE xs k with
            | true =>
              have hlk : fi < (k : Int) := HF.out.1 hd
              have e0 : itmErr xs k = 25 := by rw [HE.out, ek, if_neg (by decide), if_neg (show ¬ s.n < 0 by omega), hd] <;> rfl
              have e1 := itmMake_bad (by omega) hlt HZ.out (by rw [e0]; decide)
              have hv := fun n => HR.out (.slice none 0 0) (w4.drewN n) (below_drewN HB4.out n) (by rw [e1]; exact SlK.nil)
              rw [e1, e0, HEs.out] at hv
              clear e1 e0 ek hd
              go_wp2_with fail
              go_quiet (fail)
              go_wp2_with fail
              exact hv _
            | false =>
              have hlk : fi = (k : Int) := HF.out.2 hd
              subst hlk
              have HE0 := Lib.hid (show itmErr xs k = 0 by rw [HE.out, ek, if_neg (by decide), if_neg (show ¬ s.n < 0 by omega), hd] <;> rfl)
              clear ek hd
              go_wp2_with fail
              go_roundw
              case rel => exact ⟨k + 1, by omega, by go_num, HB4.out, fun j hj => by
                by_cases hjk2 : j < k
                · exact HZ.out j hjk2
                · obtain rfl : j = k := by omega
                  exact HE0.out⟩
              case measure => simp [intOf]; omega
      · obtain rfl : k = xs.length := by omega
        have HE1 := Lib.hid (itmMake_ok (by omega) HZ.out)
        obtain ⟨hd, hnm⟩ := itmErr_dist2 HZ.out
        have HNE := Lib.hid (show ∀ x ∈ xs, x.name.toList ≠ [] from fun x hx => itemB_ne (hnm x hx))
        clear hlt hk hnm
        go_wp2_with fail
        refine rrising_k _ _ ok _ xs (fun k h => Nat.lt_of_lt_of_le (HOK.out k h) HB.out.size) (HX.out.below itmOk HB.out HOK.out) (by omega) hd HNE.out ?_
        intro v3 w3 g3 hO3
        have hv := HR.out v3 w3 (HB.out.trans (g3.mono HB.out.size)) (by rw [HE1.out]; exact hO3.mono itmOk (fun j hj => Nat.le_trans HB.out.size hj))
        rw [HE1.out] at hv
        clear g3 hO3 hd
        go_wp2_with fail
        exact hv
end Go.Proofs.YtdceflgemhcgcaaGreatDoor

namespace Go.Proofs.YtdceflgemhcgcaaGreatDoor
open Go.RowKit

/-- The slice's cells, the spare ones too, are there and may be written; its block is of X. -/
def RoomV (sz : Nat) (X : Nat → Prop) (w : World) (v : Value) (n : Nat) : Prop :=
  ∃ A c, v = .slice A n c ∧ n ≤ c ∧ c ≤ maxLen ∧ (c = 0 ∨ ∃ b off, A = some ⟨b, off, none⟩ ∧ X b ∧ b < w.heap.size ∧
    ∀ j, j < c * sz → (w.cell? ⟨b, off + j, none⟩).isSome = true ∧ w.frozen? ⟨b, off + j, none⟩ = false)
theorem there_move {w w' : World} {b off n : Nat} (h : ∀ j, j < n → (w.cell? ⟨b, off + j, none⟩).isSome = true ∧ w.frozen? ⟨b, off + j, none⟩ = false) (hb : w'.heap[b]? = w.heap[b]?) :
    ∀ j, j < n → (w'.cell? ⟨b, off + j, none⟩).isSome = true ∧ w'.frozen? ⟨b, off + j, none⟩ = false := fun j hj => by
  have := h j hj
  rw [World.cell?_of_block (w := w) (w' := w') (a := ⟨b, off + j, none⟩) hb, World.frozen?_of_block (w := w) (w' := w') (a := ⟨b, off + j, none⟩) hb]
  exact this
theorem RoomV.move {sz : Nat} {X Y : Nat → Prop} {w w' : World} {v : Value} {n : Nat} (h : RoomV sz X w v n) (hm : ∀ k, X k → k < w.heap.size → w'.heap[k]? = w.heap[k]?) (hXY : ∀ k, X k → Y k) (hs : w.heap.size ≤ w'.heap.size) : RoomV sz Y w' v n := by
  obtain ⟨A, c, h1, h2, h3, h4⟩ := h
  refine ⟨A, c, h1, h2, h3, h4.imp id ?_⟩
  rintro ⟨b, off, hA, hX, hb, ht⟩
  exact ⟨b, off, hA, hXY b hX, by omega, there_move ht (hm b hX hb)⟩
theorem RoomV.bnd {sz : Nat} {X : Nat → Prop} {w : World} {v : Value} {n : Nat} (h : RoomV sz X w v n) : RoomV sz (fun k => X k ∧ k < w.heap.size) w v n := by
  obtain ⟨A, c, h1, h2, h3, h4⟩ := h
  refine ⟨A, c, h1, h2, h3, h4.imp id ?_⟩
  rintro ⟨b, off, hA, hX, hb, ht⟩
  exact ⟨b, off, hA, ⟨hX, hb⟩, hb, ht⟩
theorem RoomV.nil {sz : Nat} {X : Nat → Prop} {w : World} : RoomV sz X w (.slice none 0 0) 0 := ⟨none, 0, rfl, Nat.le_refl _, by simp [maxLen], .inl rfl⟩
theorem RoomV.clip {sz : Nat} {X : Nat → Prop} {w : World} {A : Option Addr} {n c : Nat} (h : RoomV sz X w (.slice A n c) n) : RoomV sz X w (.slice A n n) n := by
  obtain ⟨A', c', h1, h2, h3, h4⟩ := h
  simp only [Value.slice.injEq, true_and] at h1
  obtain ⟨rfl, rfl⟩ := h1
  refine ⟨_, n, rfl, Nat.le_refl _, by omega, ?_⟩
  rcases h4 with h4 | ⟨b, off, hA, hX, hb, ht⟩
  · exact .inl (by omega)
  · exact .inr ⟨b, off, hA, hX, hb, fun j hj => ht j (Nat.lt_of_lt_of_le hj (Nat.mul_le_mul_right _ h2))⟩
theorem there_of_block {w : World} {b : Nat} {cur : Array Value} {e : TypeId} (h : w.heap[b]? = some (.cells cur e (0, 0))) {off n : Nat} (hn : off + n ≤ cur.size) :
    ∀ j, j < n → (w.cell? ⟨b, off + j, none⟩).isSome = true ∧ w.frozen? ⟨b, off + j, none⟩ = false := fun j hj => by
  have hlt : off + j < cur.size := by omega
  exact ⟨by simp [World.cell?, h, hlt], by simp [World.frozen?, h]⟩
theorem OwnK.room {α : Type} {K : KRel α} {sz : Nat} {e : TypeId} {w : World} {B : Nat} {ok : Nat → Prop} {v : Value} {xs : List α} (h : OwnK K sz e w B ok v xs) : RoomV sz (fun k => v.ownBlock = some k) w v xs.length := by
  obtain ⟨h0, css, hr, hl, hk⟩ := h
  rcases hr.2 with ⟨rfl, hn⟩ | ⟨g, cap, cur, rfl, hB, hg, hnc, hcm, hcur, _⟩
  · exact ⟨none, 0, by rw [hn], by omega, by simp [maxLen], .inl rfl⟩
  · exact ⟨_, cap, rfl, hnc, hcm, .inr ⟨g, 0, rfl, rfl, (Array.getElem?_eq_some_iff.1 hg).1, there_of_block hg (by omega)⟩⟩
/-- A slice that reads as a list, with its room. -/
def SlR {α : Type} (K : KRel α) (sz : Nat) (w : World) (ok : Nat → Prop) (v : Value) (xs : List α) : Prop := SlK K sz w ok v xs ∧ RoomV sz ok w v xs.length
section
variable {α : Type} {K : KRel α} {sz : Nat} {w w' : World} {ok ok' : Nat → Prop} {v : Value} {xs : List α}
theorem SlR.nil : SlR K sz w ok (.slice none 0 0) ([] : List α) := ⟨SlK.nil, RoomV.nil⟩
theorem SlR.form (h : SlR K sz w ok v xs) : ∃ A c, v = .slice A xs.length c ∧ xs.length ≤ c ∧ c ≤ maxLen := h.1.form
theorem SlR.move (H : KOk K sz) (h : SlR K sz w ok v xs) (hm : ∀ k, ok k → w'.heap[k]? = w.heap[k]?) : SlR K sz w' ok v xs := by
  refine ⟨h.1.move H hm, ?_⟩
  obtain ⟨A, c, h1, h2, h3, h4⟩ := h.2
  refine ⟨A, c, h1, h2, h3, h4.imp id ?_⟩
  rintro ⟨b, off, hA, hX, hb, ht⟩
  have hb' : b < w'.heap.size := by
    have := hm b hX
    rw [Array.getElem?_eq_getElem hb] at this
    exact (Array.getElem?_eq_some_iff.1 this).1
  exact ⟨b, off, hA, hX, hb', there_move ht (hm b hX)⟩
theorem SlR.mono (H : KOk K sz) (h : SlR K sz w ok v xs) (hok : ∀ k, ok k → ok' k) : SlR K sz w ok' v xs := ⟨h.1.mono H hok, h.2.move (fun _ _ _ => rfl) hok (Nat.le_refl _)⟩
theorem SlR.bnd (H : KOk K sz) (h : SlR K sz w ok v xs) : SlR K sz w (fun k => ok k ∧ k < w.heap.size) v xs := ⟨h.1.bnd H, h.2.bnd⟩
theorem SlR.below (H : KOk K sz) {B : Nat} (h : SlR K sz w ok v xs) (hb : Below B w w') (hok : ∀ k, ok k → k < B) : SlR K sz w' ok v xs := h.move H (fun k hk => hb.block k (hok k hk))
theorem OwnK.slr {e : TypeId} {B : Nat} (H : KOk K sz) (h : OwnK K sz e w B (fun _ => False) v xs) : SlR K sz w (fun k => B ≤ k) v xs :=
  ⟨(h.slk H).mono H (fun k hk => hk.elim (fun h => h.elim) (fun hk => (h.own k hk).1)), h.room.move (fun _ _ _ => rfl) (fun k hk => (h.own k hk).1) (Nat.le_refl _)⟩
end
/-- A node's lists, a pod's lists, with their room. -/
def nodR : KRel Nod := fun w ok x cs => ∃ vl vt vc, cs = [.string x.name, vl, vt, vc, .bool x.cord] ∧ SlR labK 2 w ok vl x.labels ∧ SlR tntK 3 w ok vt x.taints ∧ SlR itmK 2 w ok vc x.cap
def pdR : KRel Pd := fun w ok x cs => ∃ vl vn vt va vp, cs = [.string x.name, vl, vn, vt, .string x.req, va, vp, .int .i64 x.prio] ∧ SlR labK 2 w ok vl x.labels ∧ SlR itmK 2 w ok vn x.needs ∧ SlR tolK 4 w ok vt x.tols ∧
  SlR aptK 2 w ok va x.apart ∧ SlR prfK 2 w ok vp x.prefer
theorem nodR.k {w : World} {ok : Nat → Prop} {x : Nod} {cs : List Value} : nodR w ok x cs → nodK w ok x cs := fun ⟨a, b, c, h, h1, h2, h3⟩ => ⟨a, b, c, h, h1.1, h2.1, h3.1⟩
theorem pdR.k {w : World} {ok : Nat → Prop} {x : Pd} {cs : List Value} : pdR w ok x cs → pdK w ok x cs := fun ⟨a, b, c, d, e, h, h1, h2, h3, h4, h5⟩ => ⟨a, b, c, d, e, h, h1.1, h2.1, h3.1, h4.1, h5.1⟩
end Go.Proofs.YtdceflgemhcgcaaGreatDoor

namespace Go.Proofs.YtdceflgemhcgcaaGreatDoor
open Go.RowKit Go.BigFrame

theorem findL_dup {xs : List Lab} {i : Nat} (hi : i < xs.length) : (dupAt keyE xs i = true → findL xs (xs[i]'hi).key < (i : Int)) ∧ (dupAt keyE xs i = false → findL xs (xs[i]'hi).key = (i : Int)) := by
  constructor
  · intro h
    unfold dupAt at h
    rw [List.getElem?_eq_getElem hi] at h
    simp only [List.any_eq_true] at h
    obtain ⟨y, hy, hk⟩ := h
    obtain ⟨j, hj, rfl⟩ := List.mem_take_iff_getElem.1 hy
    unfold findL
    cases e : xs.findIdx? (fun l => decide (l.key = (xs[i]'hi).key)) with
    | none =>
      have := List.findIdx?_eq_none_iff.1 e _ (List.getElem_mem (show i < xs.length from hi))
      simp at this
    | some k =>
      obtain ⟨hk', h1, h2⟩ := List.findIdx?_eq_some_iff_getElem.1 e
      have : ¬ j < k := fun h => by
        have := h2 j h
        unfold keyE at hk
        rw [ba_toList_inj.1 (eq_of_beq hk)] at this
        simp at this
      show ((k : Nat) : Int) < (i : Int)
      omega
  · intro h
    refine findL_at hi (fun j hj hji => fun e => ?_) rfl
    have := dupAt_true hi hji (show keyE (xs[i]'hi) (xs[j]'hj) = true by unfold keyE; rw [e]; simp)
    rw [h] at this; cases this
set_option maxRecDepth 100000 in
set_option maxHeartbeats 8000000 in
theorem rlmake_k (R : Ending → World → Prop) (w : World) (ok : Nat → Prop) (v : Value) (xs : List Lab) (hok : ∀ k, ok k → k < w.heap.size) (hx : SlK labK 2 w ok v xs) (hs : ∀ s ∈ xs, s.key.size ≤ 1048576 ∧ s.val.size ≤ 1048576) (hl : xs.length ≤ 1073741824)
    (hR : ∀ v' w', Below w.heap.size w w' → SlK labK 2 w' (fun k => w.heap.size ≤ k) v' (labMake xs).1 → R (.returned (.tuple #[v', .string (labMake xs).2.1, .int .i64 (labMake xs).2.2])) w') :
    Calls Tryz.prog 68 #[v] w R := by
  obtain ⟨A, c, rfl, hlc, _⟩ := hx.form
  have HR := Lib.hid hR
  have HS := Lib.hid hs
  have HX := Lib.hid hx
  have HOK := Lib.hid hok
  clear hR hs hx hok
  by_cases h32 : 32 < xs.length
  · have e1 : labMake xs = ([], ⟨#[]⟩, 34) := by unfold labMake; rw [if_pos h32]
    have hv := HR.out (.slice none 0 0) w (Below.refl _ _) (by rw [e1]; exact SlK.nil)
    rw [e1] at hv
    have hcast : (32 : Int) < (xs.length : Int) := by omega
    clear e1
    go_enter Tryz.func68, Tryz.ntmps68
    go_wp2_with fail
    exact hv
  · have hcast : ¬ (32 : Int) < (xs.length : Int) := by omega
    have hln : xs.length ≤ 32 := by omega
    go_enter Tryz.func68, Tryz.ntmps68
    go_wp2_with fail
    go_loopw [5] (fun i wr => ∃ k : Nat, k ≤ xs.length ∧ i = .int .i64 k ∧ Below w.heap.size w wr ∧ ∀ j, j < k → labErr xs j = 0) (fun i _ => xs.length - (intOf i).toNat)
    case atStart => exact ⟨0, Nat.zero_le _, rfl, Below.refl _ _, fun _ h => absurd h (Nat.not_lt_zero _)⟩
    case round =>
      obtain ⟨k, hk, rfl, hB, hz⟩ := hrel
      have HB := Lib.hid hB
      have HZ := Lib.hid hz
      clear hB hz
      by_cases hlt : k < xs.length
      · obtain ⟨b, off, c2, he, _, _, bk, bl, hce⟩ := (HX.out.below labOk HB.out HOK.out).addr (by omega)
        simp only [Value.slice.injEq] at he
        obtain ⟨he, -, hec⟩ := he
        cases he
        cases hec
        obtain ⟨y0, y1⟩ := lab_cells hce k hlt
        obtain ⟨s, hs⟩ : ∃ s, xs[k]'hlt = s := ⟨_, rfl⟩
        rw [hs] at y0 y1
        have HEs := Lib.hid hs
        clear hce hs
        have fit := HS.out s (by rw [← HEs.out]; exact List.getElem_mem hlt)
        go_wp2_with fail
        refine rkey_k _ _ s.key fit.1 ?_
        intro w3 g3
        have HB3 := Lib.hid (HB.out.trans (g3.mono HB.out.size))
        have q1 := (Mod.of_below g3).cell' y1 (fun h => h)
        have q0 := (Mod.of_below g3).cell' y0 (fun h => h)
        clear g3 y0 y1
        go_wp2_with fail
        refine rvalue_k _ _ s.val fit.2 ?_
        go_wp2_with fail
        refine find_k _ _ ok _ xs s.key (fun k h => Nat.lt_of_lt_of_le (HOK.out k h) HB3.out.size) (HX.out.below labOk HB3.out HOK.out) hl ?_
        intro w5 g5
        have HB5 := Lib.hid (HB3.out.trans (g5.mono HB3.out.size))
        have z0 := (Mod.of_below g5).cell' q0 (fun h => h)
        clear g5 q0 q1
        have HE := Lib.hid (labErr_at hlt)
        have HF := Lib.hid (findL_dup hlt)
        rw [HEs.out] at HE HF
        obtain ⟨fi, hfi⟩ : ∃ fi, findL xs s.key = fi := ⟨_, rfl⟩
        rw [hfi] at HF
        rw [hfi]
        clear hfi
        cases ek : keyB s.key with
        | false =>
          have e0 : labErr xs k = 31 := by rw [HE.out, ek]; rfl
          have e1 := labMake_bad (by omega) hlt HZ.out (by rw [e0]; decide)
          have hv := fun n => HR.out (.slice none 0 0) (w5.drewN n) (below_drewN HB5.out n) (by rw [e1]; exact SlK.nil)
          rw [e1, e0, HEs.out] at hv
          clear e1 e0
          clear ek
          go_wp2_with fail
          go_quiet (fail)
          go_wp2_with fail
          exact hv _
        | true =>
          cases ev : valueB s.val with
          | false =>
            have e0 : labErr xs k = 32 := by rw [HE.out, ek, ev]; rfl
            have e1 := labMake_bad (by omega) hlt HZ.out (by rw [e0]; decide)
            have hv := fun n => HR.out (.slice none 0 0) (w5.drewN n) (below_drewN HB5.out n) (by rw [e1]; exact SlK.nil)
            rw [e1, e0, HEs.out] at hv
            clear e1 e0
            clear ek ev
            go_wp2_with fail
            go_quiet (fail)
            go_wp2_with fail
            exact hv _
          | true =>
            cases ed : dupAt keyE xs k with
            | true =>
              have hlk : fi < (k : Int) := HF.out.1 ed
              have e0 : labErr xs k = 33 := by rw [HE.out, ek, ev, ed]; rfl
              have e1 := labMake_bad (by omega) hlt HZ.out (by rw [e0]; decide)
              have hv := fun n => HR.out (.slice none 0 0) (w5.drewN n) (below_drewN HB5.out n) (by rw [e1]; exact SlK.nil)
              rw [e1, e0, HEs.out] at hv
              clear e1 e0
              clear ek ev ed
              go_wp2_with fail
              go_quiet (fail)
              go_wp2_with fail
              exact hv _
            | false =>
              have e0 : labErr xs k = 0 := by rw [HE.out, ek, ev, ed]; rfl
              have HE0 := Lib.hid e0
              have hlk : fi = (k : Int) := HF.out.2 ed
              subst hlk
              clear e0 ek ev ed
              go_wp2_with fail
              go_roundw
              case rel => exact ⟨k + 1, by omega, by go_num, HB5.out, fun j hj => by
                by_cases hjk2 : j < k
                · exact HZ.out j hjk2
                · obtain rfl : j = k := by omega
                  exact HE0.out⟩
              case measure => simp [intOf]; omega
      · obtain rfl : k = xs.length := by omega
        have e1 := labMake_ok (by omega) HZ.out
        have HE1 := Lib.hid e1
        have hd : Dist ltL xs := keyE_dist (fun i hi => by
          have h := HZ.out i hi
          rw [labErr_at hi] at h
          cases hq : dupAt keyE xs i with
          | false => rfl
          | true =>
            rw [hq] at h
            by_cases h1 : keyB (xs[i]'hi).key = false
            · rw [if_pos h1] at h; cases h
            · rw [if_neg h1] at h
              by_cases h2 : valueB (xs[i]'hi).val = false
              · rw [if_pos h2] at h; cases h
              · rw [if_neg h2] at h; cases h)
        clear e1 hlt hk
        go_wp2_with fail
        refine rrise_k _ _ ok _ xs (fun k h => Nat.lt_of_lt_of_le (HOK.out k h) HB.out.size) (HX.out.below labOk HB.out HOK.out) (by omega) hd ?_
        intro v3 w3 g3 hO3
        have hv := HR.out v3 w3 (HB.out.trans (g3.mono HB.out.size)) (by rw [HE1.out]; exact hO3.mono labOk (fun j hj => Nat.le_trans HB.out.size hj))
        rw [HE1.out] at hv
        clear g3 hO3 hd
        go_wp2_with fail
        exact hv
end Go.Proofs.YtdceflgemhcgcaaGreatDoor
