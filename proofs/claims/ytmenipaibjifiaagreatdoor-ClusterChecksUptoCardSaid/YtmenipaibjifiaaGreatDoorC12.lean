/-
Lists of labels: Check, Get, Find, Same, Copy, Clone (package labels; the reference's). Lists whose texts have at most 1048576 bytes.
Lists of labels: Get, Find, Same, Equal, Copy, Clone.
taint, berthref04: CheckTolerations.
-/
import Derived.Test.YtmenipaibjifiaaGreatDoorC10
import Derived.Test.YtmenipaibjifiaaGreatDoorC03
import Derived.BigQuiet
import Derived.BigRegion
import Derived.WalkLawsBesides
import Derived.Test.YtmenipaibjifiaaGreatDoorC11
set_option linter.unusedVariables false
set_option linter.unusedSimpArgs false
namespace Go.Proofs.YtmenipaibjifiaaGreatDoor
open Go.RowKit Go.BigFrame

/-- Go's '<' on texts. -/
def ltB (a b : ByteArray) : Bool := Op.bytesLess a.toList b.toList
def errAt (xs : List Lab) (k : Nat) : Int :=
  let x := xs.getD k ⟨⟨#[]⟩, ⟨#[]⟩⟩
  let p := xs.getD (k - 1) ⟨⟨#[]⟩, ⟨#[]⟩⟩
  if keyB x.key = false then 31 else if valueB x.val = false then 32 else if 0 < k ∧ x.key = p.key then 33 else if 0 < k ∧ ltB x.key p.key = true then 36 else 0
def chkFrom (xs : List Lab) : Nat → Nat → Int × Int
  | 0, _ => (0, 0)
  | n + 1, k => if errAt xs k = 0 then chkFrom xs n (k + 1) else ((k : Int), errAt xs k)
/-- What Check answers. -/
def chk (xs : List Lab) : Int × Int := if 32 < xs.length then (32, 34) else chkFrom xs xs.length 0
theorem chkFrom_ok {xs : List Lab} {n k : Nat} (h : ∀ j, k ≤ j → j < k + n → errAt xs j = 0) : chkFrom xs n k = (0, 0) := by
  induction n generalizing k with
  | zero => rfl
  | succ n ih => unfold chkFrom; rw [if_pos (h k (Nat.le_refl _) (by omega))]; exact ih (fun j h1 h2 => h j (by omega) (by omega))
theorem chkFrom_err {xs : List Lab} {n k j : Nat} (hj : k ≤ j) (hn : j < k + n) (h0 : ∀ i, k ≤ i → i < j → errAt xs i = 0) (he : errAt xs j ≠ 0) : chkFrom xs n k = ((j : Int), errAt xs j) := by
  induction n generalizing k with
  | zero => omega
  | succ n ih =>
    unfold chkFrom
    rcases Nat.lt_or_ge k j with h | h
    · rw [if_pos (h0 k (Nat.le_refl _) h)]
      exact ih (by omega) (by omega) (fun i h1 h2 => h0 i (by omega) h2)
    · obtain rfl : k = j := by omega
      rw [if_neg he]
theorem chk_err {xs : List Lab} {j : Nat} (hl : xs.length ≤ 32) (hn : j < xs.length) (h0 : ∀ i, i < j → errAt xs i = 0) {e : Int} (he : errAt xs j = e) (hne : e ≠ 0) : chk xs = ((j : Int), e) := by
  unfold chk
  rw [if_neg (by omega), chkFrom_err (Nat.zero_le _) (by omega) (fun i _ h => h0 i h) (by rw [he]; exact hne), he]
/-- Texts of at most so many bytes. -/
def LabsSmall (xs : List Lab) : Prop := xs.length ≤ 1048576 ∧ ∀ x ∈ xs, x.key.size ≤ 1048576 ∧ x.val.size ≤ 1048576
theorem lab_cells {w : World} {ok : Nat → Prop} {b off : Nat} {l : List Lab} (h : ∀ j (hj : j < l.length), ∃ cs, labK w ok (l[j]'hj) cs ∧ cs.length = 2 ∧ ∀ i u, cs[i]? = some u → w.cell? ⟨b, off + (j * 2 + i), none⟩ = some u) (k : Nat) (hk : k < l.length) :
    w.cell? ⟨b, off + k * 2, none⟩ = some (.string (l[k]'hk).key) ∧ w.cell? ⟨b, off + k * 2 + 1, none⟩ = some (.string (l[k]'hk).val) := by
  obtain ⟨cs, h1, _, hc⟩ := h k hk
  cases h1
  exact ⟨hc 0 _ rfl, hc 1 _ rfl⟩

set_option maxRecDepth 100000 in
set_option maxHeartbeats 4000000 in
theorem check_k (R : Ending → World → Prop) (w : World) (ok : Nat → Prop) (v : Value) (xs : List Lab) (hG : GOk w) (hok : ∀ k, ok k → k < w.heap.size) (hx : SlK labK 2 w ok v xs) (hs : LabsSmall xs)
    (hR : ∀ w', Below w.heap.size w w' → R (.returned (.tuple #[.int .i64 (chk xs).1, .int .i64 (chk xs).2])) w') :
    Calls Tryz.prog 211 #[v] w R := by
  obtain ⟨A, c, rfl, hlc, _⟩ := hx.form
  obtain ⟨hsl, hst⟩ := hs
  by_cases hl : 32 < xs.length
  · have hv : chk xs = (32, 34) := by unfold chk; rw [if_pos hl]
    have hv2 := hR _ (Below.refl _ _)
    rw [hv] at hv2
    clear hv
    go_enter Tryz.func211, Tryz.ntmps211
    go_wp2_with fail
    exact hv2
  go_enter Tryz.func211, Tryz.ntmps211
  go_wp2_with fail
  go_loopw [4, 5, 11] (fun _ _ i wr => ∃ k : Nat, k ≤ xs.length ∧ i = .int .i64 k ∧ Below w.heap.size w wr ∧ ∀ j, j < k → errAt xs j = 0) (fun _ _ i _ => xs.length - (intOf i).toNat)
  case atStart => exact ⟨0, Nat.zero_le _, rfl, Below.refl _ _, fun j hj => absurd hj (Nat.not_lt_zero _)⟩
  case round =>
    obtain ⟨k, hk, rfl, hB, hin⟩ := hrel
    have Hin := Lib.hid hin
    clear hin
    by_cases hlt : k < xs.length
    · have hx' := hx.below labOk hB hok
      obtain ⟨b, off, c', he, _, _, hbk, hbl, hce⟩ := hx'.addr (by omega)
      simp only [Value.slice.injEq] at he
      obtain ⟨rfl, -, rfl⟩ := he
      obtain ⟨c0, c1⟩ := lab_cells hce k hlt
      have hGr := hG.below hB
      obtain ⟨hks, hvs⟩ := hst _ (List.getElem_mem hlt)
      have HE : Hid (errAt xs k = if keyB (xs[k]'hlt).key = false then 31 else if valueB (xs[k]'hlt).val = false then 32 else if 0 < k ∧ (xs[k]'hlt).key = (xs[k - 1]'(by omega)).key then 33 else if 0 < k ∧ ltB (xs[k]'hlt).key (xs[k - 1]'(by omega)).key = true then 36 else 0) := by
        show _ = _
        unfold errAt
        simp [List.getD_eq_getElem?_getD, List.getElem?_eq_getElem hlt, List.getElem?_eq_getElem (show k - 1 < xs.length by omega)]
      have hret : ∀ w' (e : Int), Below w.heap.size w w' → errAt xs k = e → e ≠ 0 → R (.returned (.tuple #[.int .i64 k, .int .i64 e])) w' := fun w' e hb h1 h2 => by
        have := hR w' hb
        rwa [chk_err (by omega) hlt Hin.out h1 h2] at this
      have hnext : errAt xs k = 0 → ∀ j, j < k + 1 → errAt xs j = 0 := fun h j hj => by
        rcases Nat.lt_or_ge j k with h' | h'
        · exact Hin.out j h'
        · obtain rfl : j = k := by omega
          exact h
      have Hret := Lib.hid hret
      have Hnext := Lib.hid hnext
      clear hret hnext
      obtain ⟨p0, _⟩ := lab_cells hce (k - 1) (by omega)
      clear hce
      generalize (xs[k - 1]'(by omega)).key = pk at *
      generalize (xs[k]'hlt).key = xk at *
      generalize (xs[k]'hlt).val = xv at *
      cases hkb : keyB xk with
      | false =>
        have HK := Lib.hid hkb
        have HE1 : Hid (errAt xs k = 31) := by
          show _ = _
          rw [HE.out, hkb]; simp
        clear hkb
        go_wp2_with fail
        refine key_k _ _ _ (hGr.below (Below.alloc (Below.refl _ _) (Nat.le_refl _) _)) hks ?_
        intro w1 hB1
        rw [HK.out]
        have hB2 : Below w.heap.size w w1 := hB.trans ((Below.alloc (Below.refl _ _) (Nat.le_refl _) _ : Below wr.heap.size wr _).mono hB.size |>.trans (hB1.mono (by simp; have := hB.size; omega)))
        have n0 := (hB1.cell (p := ⟨wr.heap.size, 0, none⟩) (by simp)).trans (cell_new (w := wr) (cs := #[.string xk, .string xv]) (T := 108) (i := 0) rfl)
        have n1 := (hB1.cell (p := ⟨wr.heap.size, 1, none⟩) (by simp)).trans (cell_new (w := wr) (cs := #[.string xk, .string xv]) (T := 108) (i := 1) rfl)
        have qp := (hB1.cell (p := ⟨b, off + (k - 1) * 2, none⟩) (by simp; omega)).trans (cell_old p0 _)
        clear hB1 c0 c1 p0
        go_wp2_with fail
        exact Hret.out _ _ hB2 HE1.out (by decide)
      | true =>
        have HK := Lib.hid hkb
        cases hvb : valueB xv with
        | false =>
          have HV := Lib.hid hvb
          have HE1 : Hid (errAt xs k = 32) := by
            show _ = _
            rw [HE.out, hkb, hvb]; simp
          clear hkb hvb
          go_wp2_with fail
          refine key_k _ _ _ (hGr.below (Below.alloc (Below.refl _ _) (Nat.le_refl _) _)) hks ?_
          intro w1 hB1
          rw [HK.out]
          have hB2 : Below w.heap.size w w1 := hB.trans ((Below.alloc (Below.refl _ _) (Nat.le_refl _) _ : Below wr.heap.size wr _).mono hB.size |>.trans (hB1.mono (by simp; have := hB.size; omega)))
          have n0 := (hB1.cell (p := ⟨wr.heap.size, 0, none⟩) (by simp)).trans (cell_new (w := wr) (cs := #[.string xk, .string xv]) (T := 108) (i := 0) rfl)
          have n1 := (hB1.cell (p := ⟨wr.heap.size, 1, none⟩) (by simp)).trans (cell_new (w := wr) (cs := #[.string xk, .string xv]) (T := 108) (i := 1) rfl)
          have qp := (hB1.cell (p := ⟨b, off + (k - 1) * 2, none⟩) (by simp; omega)).trans (cell_old p0 _)
          clear hB1 c0 c1 p0
          go_wp2_with (go_at_call 177; refine value_k _ _ _ hvs ?_; rw [HV.out])
          exact Hret.out _ _ hB2 HE1.out (by decide)
        | true =>
          have HV := Lib.hid hvb
          have HE2 : Hid (errAt xs k = if 0 < k ∧ xk = pk then 33 else if 0 < k ∧ ltB xk pk = true then 36 else 0) := by
            show _ = _
            rw [HE.out, hkb, hvb]; simp
          clear hkb hvb HE
          rcases Nat.eq_zero_or_pos k with h0 | h0
          · have HE1 : Hid (errAt xs k = 0) := by
              show _ = _
              rw [HE2.out]; simp [h0]
            have hz : decide (0 < k) = false := by simp [h0]
            clear h0
            go_wp2_with fail
            refine key_k _ _ _ (hGr.below (Below.alloc (Below.refl _ _) (Nat.le_refl _) _)) hks ?_
            intro w1 hB1
            rw [HK.out]
            have hB2 : Below w.heap.size w w1 := hB.trans ((Below.alloc (Below.refl _ _) (Nat.le_refl _) _ : Below wr.heap.size wr _).mono hB.size |>.trans (hB1.mono (by simp; have := hB.size; omega)))
            have n0 := (hB1.cell (p := ⟨wr.heap.size, 0, none⟩) (by simp)).trans (cell_new (w := wr) (cs := #[.string xk, .string xv]) (T := 108) (i := 0) rfl)
            have n1 := (hB1.cell (p := ⟨wr.heap.size, 1, none⟩) (by simp)).trans (cell_new (w := wr) (cs := #[.string xk, .string xv]) (T := 108) (i := 1) rfl)
            have qp := (hB1.cell (p := ⟨b, off + (k - 1) * 2, none⟩) (by simp; omega)).trans (cell_old p0 _)
            clear hB1 c0 c1 p0
            go_wp2_with (go_at_call 177; refine value_k _ _ _ hvs ?_; rw [HV.out])
            go_quiet (fail)
            go_wp2_with fail
            go_quiet (fail)
            go_wp2_with fail
            go_roundw
            case rel => exact ⟨k + 1, by omega, by go_num, by first | exact below_drewN hB2 _ | exact hB2, Hnext.out HE1.out⟩
            case measure => simp [intOf]; omega
          · cases hd : (xk.toList == pk.toList) with
            | true =>
              have HE1 : Hid (errAt xs k = 33) := by
                show _ = _
                rw [HE2.out]; simp [h0, ba_toList_inj.1 (eq_of_beq hd)]
              go_wp2_with fail
              refine key_k _ _ _ (hGr.below (Below.alloc (Below.refl _ _) (Nat.le_refl _) _)) hks ?_
              intro w1 hB1
              rw [HK.out]
              have hB2 : Below w.heap.size w w1 := hB.trans ((Below.alloc (Below.refl _ _) (Nat.le_refl _) _ : Below wr.heap.size wr _).mono hB.size |>.trans (hB1.mono (by simp; have := hB.size; omega)))
              have n0 := (hB1.cell (p := ⟨wr.heap.size, 0, none⟩) (by simp)).trans (cell_new (w := wr) (cs := #[.string xk, .string xv]) (T := 108) (i := 0) rfl)
              have n1 := (hB1.cell (p := ⟨wr.heap.size, 1, none⟩) (by simp)).trans (cell_new (w := wr) (cs := #[.string xk, .string xv]) (T := 108) (i := 1) rfl)
              have qp := (hB1.cell (p := ⟨b, off + (k - 1) * 2, none⟩) (by simp; omega)).trans (cell_old p0 _)
              clear hB1 c0 c1 p0
              go_wp2_with (go_at_call 177; refine value_k _ _ _ hvs ?_; rw [HV.out])
              go_region
              go_wp2_with fail
              exact Hret.out _ _ (by first | exact hB2.drew | exact hB2) HE1.out (by decide)
            | false =>
              have hne : ¬ xk = pk := fun h => by rw [h] at hd; simp at hd
              cases hle : Op.bytesLess xk.toList pk.toList with
              | true =>
                have HE1 : Hid (errAt xs k = 36) := by
                  show _ = _
                  rw [HE2.out]; simp [h0, hne, ltB, hle]
                clear hne
                go_wp2_with fail
                refine key_k _ _ _ (hGr.below (Below.alloc (Below.refl _ _) (Nat.le_refl _) _)) hks ?_
                intro w1 hB1
                rw [HK.out]
                have hB2 : Below w.heap.size w w1 := hB.trans ((Below.alloc (Below.refl _ _) (Nat.le_refl _) _ : Below wr.heap.size wr _).mono hB.size |>.trans (hB1.mono (by simp; have := hB.size; omega)))
                have n0 := (hB1.cell (p := ⟨wr.heap.size, 0, none⟩) (by simp)).trans (cell_new (w := wr) (cs := #[.string xk, .string xv]) (T := 108) (i := 0) rfl)
                have n1 := (hB1.cell (p := ⟨wr.heap.size, 1, none⟩) (by simp)).trans (cell_new (w := wr) (cs := #[.string xk, .string xv]) (T := 108) (i := 1) rfl)
                have qp := (hB1.cell (p := ⟨b, off + (k - 1) * 2, none⟩) (by simp; omega)).trans (cell_old p0 _)
                clear hB1 c0 c1 p0
                go_wp2_with (go_at_call 177; refine value_k _ _ _ hvs ?_; rw [HV.out])
                go_region
                go_wp2_with fail
                go_region
                go_wp2_with fail
                exact Hret.out _ _ (by first | exact hB2.drew.drew | exact hB2) HE1.out (by decide)
              | false =>
                have HE1 : Hid (errAt xs k = 0) := by
                  show _ = _
                  rw [HE2.out]; simp [h0, hne, ltB, hle]
                clear hne
                go_wp2_with fail
                refine key_k _ _ _ (hGr.below (Below.alloc (Below.refl _ _) (Nat.le_refl _) _)) hks ?_
                intro w1 hB1
                rw [HK.out]
                have hB2 : Below w.heap.size w w1 := hB.trans ((Below.alloc (Below.refl _ _) (Nat.le_refl _) _ : Below wr.heap.size wr _).mono hB.size |>.trans (hB1.mono (by simp; have := hB.size; omega)))
                have n0 := (hB1.cell (p := ⟨wr.heap.size, 0, none⟩) (by simp)).trans (cell_new (w := wr) (cs := #[.string xk, .string xv]) (T := 108) (i := 0) rfl)
                have n1 := (hB1.cell (p := ⟨wr.heap.size, 1, none⟩) (by simp)).trans (cell_new (w := wr) (cs := #[.string xk, .string xv]) (T := 108) (i := 1) rfl)
                have qp := (hB1.cell (p := ⟨b, off + (k - 1) * 2, none⟩) (by simp; omega)).trans (cell_old p0 _)
                clear hB1 c0 c1 p0
                go_wp2_with (go_at_call 177; refine value_k _ _ _ hvs ?_; rw [HV.out])
                go_region
                go_wp2_with fail
                go_region
                go_wp2_with fail
                go_roundw
                case rel => exact ⟨k + 1, by omega, by go_num, by first | exact hB2.drew.drew | exact hB2, Hnext.out HE1.out⟩
                case measure => simp [intOf]; omega
    · obtain rfl : k = xs.length := by omega
      have hv2 := hR _ hB
      have hv : chk xs = (0, 0) := by unfold chk; rw [if_neg hl, chkFrom_ok (fun j _ h => Hin.out j (by omega))]
      rw [hv] at hv2
      clear hv
      go_wp2_with fail
      exact hv2
set_option maxRecDepth 100000 in
set_option maxHeartbeats 4000000 in
theorem rcheck_k (R : Ending → World → Prop) (w : World) (ok : Nat → Prop) (v : Value) (xs : List Lab) (hok : ∀ k, ok k → k < w.heap.size) (hx : SlK labK 2 w ok v xs) (hs : LabsSmall xs)
    (hR : ∀ w', Below w.heap.size w w' → R (.returned (.tuple #[.int .i64 (chk xs).1, .int .i64 (chk xs).2])) w') :
    Calls Tryz.prog 138 #[v] w R := by
  obtain ⟨A, c, rfl, hlc, _⟩ := hx.form
  obtain ⟨hsl, hst⟩ := hs
  by_cases hl : 32 < xs.length
  · have hv : chk xs = (32, 34) := by unfold chk; rw [if_pos hl]
    have hv2 := hR _ (Below.refl _ _)
    rw [hv] at hv2
    clear hv
    go_enter Tryz.func138, Tryz.ntmps138
    go_wp2_with fail
    exact hv2
  go_enter Tryz.func138, Tryz.ntmps138
  go_wp2_with fail
  go_loopw [4] (fun i wr => ∃ k : Nat, k ≤ xs.length ∧ i = .int .i64 k ∧ Below w.heap.size w wr ∧ ∀ j, j < k → errAt xs j = 0) (fun i _ => xs.length - (intOf i).toNat)
  case atStart => exact ⟨0, Nat.zero_le _, rfl, Below.refl _ _, fun j hj => absurd hj (Nat.not_lt_zero _)⟩
  case round =>
    obtain ⟨k, hk, rfl, hB, hin⟩ := hrel
    have Hin := Lib.hid hin
    clear hin
    by_cases hlt : k < xs.length
    · have hx' := hx.below labOk hB hok
      obtain ⟨b, off, c', he, _, _, hbk, hbl, hce⟩ := hx'.addr (by omega)
      simp only [Value.slice.injEq] at he
      obtain ⟨rfl, -, rfl⟩ := he
      obtain ⟨c0, c1⟩ := lab_cells hce k hlt
      obtain ⟨hks, hvs⟩ := hst _ (List.getElem_mem hlt)
      have HE : Hid (errAt xs k = if keyB (xs[k]'hlt).key = false then 31 else if valueB (xs[k]'hlt).val = false then 32 else if 0 < k ∧ (xs[k]'hlt).key = (xs[k - 1]'(by omega)).key then 33 else if 0 < k ∧ ltB (xs[k]'hlt).key (xs[k - 1]'(by omega)).key = true then 36 else 0) := by
        show _ = _
        unfold errAt
        simp [List.getD_eq_getElem?_getD, List.getElem?_eq_getElem hlt, List.getElem?_eq_getElem (show k - 1 < xs.length by omega)]
      have hret : ∀ w' (e : Int), Below w.heap.size w w' → errAt xs k = e → e ≠ 0 → R (.returned (.tuple #[.int .i64 k, .int .i64 e])) w' := fun w' e hb h1 h2 => by
        have := hR w' hb
        rwa [chk_err (by omega) hlt Hin.out h1 h2] at this
      have hnext : errAt xs k = 0 → ∀ j, j < k + 1 → errAt xs j = 0 := fun h j hj => by
        rcases Nat.lt_or_ge j k with h' | h'
        · exact Hin.out j h'
        · obtain rfl : j = k := by omega
          exact h
      have Hret := Lib.hid hret
      have Hnext := Lib.hid hnext
      clear hret hnext
      obtain ⟨p0, _⟩ := lab_cells hce (k - 1) (by omega)
      clear hce
      generalize (xs[k - 1]'(by omega)).key = pk at *
      generalize (xs[k]'hlt).key = xk at *
      generalize (xs[k]'hlt).val = xv at *
      cases hkb : keyB xk with
      | false =>
        have HK := Lib.hid hkb
        have HE1 : Hid (errAt xs k = 31) := by
          show _ = _
          rw [HE.out, hkb]; simp
        clear hkb
        go_wp2_with fail
        refine rkey_k _ _ _ hks ?_
        intro w1 hB1
        rw [HK.out]
        have hB2 : Below w.heap.size w w1 := hB.trans (hB1.mono hB.size)
        have q1 := (hB1.cell (p := ⟨b, off + k * 2 + 1, none⟩) hbl).trans c1
        have q0 := (hB1.cell (p := ⟨b, off + k * 2, none⟩) hbl).trans c0
        have qp := (hB1.cell (p := ⟨b, off + (k - 1) * 2, none⟩) hbl).trans p0
        clear hB1 c0 c1 p0
        go_wp2_with (go_at_call 192; refine rvalue_k _ _ _ hvs ?_)
        exact Hret.out _ _ hB2 HE1.out (by decide)
      | true =>
        have HK := Lib.hid hkb
        cases hvb : valueB xv with
        | false =>
          have HV := Lib.hid hvb
          have HE1 : Hid (errAt xs k = 32) := by
            show _ = _
            rw [HE.out, hkb, hvb]; simp
          clear hkb hvb
          go_wp2_with fail
          refine rkey_k _ _ _ hks ?_
          intro w1 hB1
          rw [HK.out]
          have hB2 : Below w.heap.size w w1 := hB.trans (hB1.mono hB.size)
          have q1 := (hB1.cell (p := ⟨b, off + k * 2 + 1, none⟩) hbl).trans c1
          have q0 := (hB1.cell (p := ⟨b, off + k * 2, none⟩) hbl).trans c0
          have qp := (hB1.cell (p := ⟨b, off + (k - 1) * 2, none⟩) hbl).trans p0
          clear hB1 c0 c1 p0
          go_wp2_with (go_at_call 192; refine rvalue_k _ _ _ hvs ?_; rw [HV.out])
          exact Hret.out _ _ hB2 HE1.out (by decide)
        | true =>
          have HV := Lib.hid hvb
          have HE2 : Hid (errAt xs k = if 0 < k ∧ xk = pk then 33 else if 0 < k ∧ ltB xk pk = true then 36 else 0) := by
            show _ = _
            rw [HE.out, hkb, hvb]; simp
          clear hkb hvb HE
          rcases Nat.eq_zero_or_pos k with h0 | h0
          · have HE1 : Hid (errAt xs k = 0) := by
              show _ = _
              rw [HE2.out]; simp [h0]
            have hz : decide (0 < k) = false := by simp [h0]
            clear h0
            go_wp2_with fail
            refine rkey_k _ _ _ hks ?_
            intro w1 hB1
            rw [HK.out]
            have hB2 : Below w.heap.size w w1 := hB.trans (hB1.mono hB.size)
            have q1 := (hB1.cell (p := ⟨b, off + k * 2 + 1, none⟩) hbl).trans c1
            have q0 := (hB1.cell (p := ⟨b, off + k * 2, none⟩) hbl).trans c0
            have qp := (hB1.cell (p := ⟨b, off + (k - 1) * 2, none⟩) hbl).trans p0
            clear hB1 c0 c1 p0
            go_wp2_with (go_at_call 192; refine rvalue_k _ _ _ hvs ?_; rw [HV.out])
            go_quiet (fail)
            go_wp2_with fail
            go_quiet (fail)
            go_wp2_with fail
            go_roundw
            case rel => exact ⟨k + 1, by omega, by go_num, by first | exact below_drewN hB2 _ | exact hB2, Hnext.out HE1.out⟩
            case measure => simp [intOf]; omega
          · cases hd : (xk.toList == pk.toList) with
            | true =>
              have HE1 : Hid (errAt xs k = 33) := by
                show _ = _
                rw [HE2.out]; simp [h0, ba_toList_inj.1 (eq_of_beq hd)]
              go_wp2_with fail
              refine rkey_k _ _ _ hks ?_
              intro w1 hB1
              rw [HK.out]
              have hB2 : Below w.heap.size w w1 := hB.trans (hB1.mono hB.size)
              have q1 := (hB1.cell (p := ⟨b, off + k * 2 + 1, none⟩) hbl).trans c1
              have q0 := (hB1.cell (p := ⟨b, off + k * 2, none⟩) hbl).trans c0
              have qp := (hB1.cell (p := ⟨b, off + (k - 1) * 2, none⟩) hbl).trans p0
              clear hB1 c0 c1 p0
              go_wp2_with (go_at_call 192; refine rvalue_k _ _ _ hvs ?_; rw [HV.out])
              go_region
              go_wp2_with fail
              exact Hret.out _ _ (by first | exact hB2.drew | exact hB2) HE1.out (by decide)
            | false =>
              have hne : ¬ xk = pk := fun h => by rw [h] at hd; simp at hd
              cases hle : Op.bytesLess xk.toList pk.toList with
              | true =>
                have HE1 : Hid (errAt xs k = 36) := by
                  show _ = _
                  rw [HE2.out]; simp [h0, hne, ltB, hle]
                clear hne
                go_wp2_with fail
                refine rkey_k _ _ _ hks ?_
                intro w1 hB1
                rw [HK.out]
                have hB2 : Below w.heap.size w w1 := hB.trans (hB1.mono hB.size)
                have q1 := (hB1.cell (p := ⟨b, off + k * 2 + 1, none⟩) hbl).trans c1
                have q0 := (hB1.cell (p := ⟨b, off + k * 2, none⟩) hbl).trans c0
                have qp := (hB1.cell (p := ⟨b, off + (k - 1) * 2, none⟩) hbl).trans p0
                clear hB1 c0 c1 p0
                go_wp2_with (go_at_call 192; refine rvalue_k _ _ _ hvs ?_; rw [HV.out])
                go_region
                go_wp2_with fail
                go_region
                go_wp2_with fail
                exact Hret.out _ _ (by first | exact hB2.drew.drew | exact hB2) HE1.out (by decide)
              | false =>
                have HE1 : Hid (errAt xs k = 0) := by
                  show _ = _
                  rw [HE2.out]; simp [h0, hne, ltB, hle]
                clear hne
                go_wp2_with fail
                refine rkey_k _ _ _ hks ?_
                intro w1 hB1
                rw [HK.out]
                have hB2 : Below w.heap.size w w1 := hB.trans (hB1.mono hB.size)
                have q1 := (hB1.cell (p := ⟨b, off + k * 2 + 1, none⟩) hbl).trans c1
                have q0 := (hB1.cell (p := ⟨b, off + k * 2, none⟩) hbl).trans c0
                have qp := (hB1.cell (p := ⟨b, off + (k - 1) * 2, none⟩) hbl).trans p0
                clear hB1 c0 c1 p0
                go_wp2_with (go_at_call 192; refine rvalue_k _ _ _ hvs ?_; rw [HV.out])
                go_region
                go_wp2_with fail
                go_region
                go_wp2_with fail
                go_roundw
                case rel => exact ⟨k + 1, by omega, by go_num, by first | exact hB2.drew.drew | exact hB2, Hnext.out HE1.out⟩
                case measure => simp [intOf]; omega
    · obtain rfl : k = xs.length := by omega
      have hv2 := hR _ hB
      have hv : chk xs = (0, 0) := by unfold chk; rw [if_neg hl, chkFrom_ok (fun j _ h => Hin.out j (by omega))]
      rw [hv] at hv2
      clear hv
      go_wp2_with fail
      exact hv2
end Go.Proofs.YtmenipaibjifiaaGreatDoor

namespace Go.Proofs.YtmenipaibjifiaaGreatDoor
open Go.RowKit Go.BigFrame

/-- The value of a key. -/
def getB (xs : List Lab) (key : ByteArray) : Option ByteArray := (xs.find? (fun l => decide (l.key = key))).map (fun l => l.val)
theorem getB_at {xs : List Lab} {key : ByteArray} {k : Nat} (hk : k < xs.length) (h : ∀ j (hj : j < xs.length), j < k → (xs[j]'hj).key ≠ key) (he : (xs[k]'hk).key = key) : getB xs key = some (xs[k]'hk).val := by
  unfold getB
  rw [List.find?_eq_some_iff_getElem.2 ⟨by simpa using he, k, hk, rfl, fun j hj => by simpa using h j (by omega) hj⟩]
  rfl
theorem getB_none {xs : List Lab} {key : ByteArray} (h : ∀ j (hj : j < xs.length), (xs[j]'hj).key ≠ key) : getB xs key = none := by
  unfold getB
  rw [List.find?_eq_none.2 ?_]
  · rfl
  · intro x hx
    obtain ⟨j, hj, rfl⟩ := List.mem_iff_getElem.1 hx
    simpa using h j hj
def getV (o : Option ByteArray) : Value := .tuple #[.string (o.getD ⟨#[]⟩), .bool o.isSome]

set_option maxRecDepth 100000 in
set_option maxHeartbeats 2000000 in
theorem get_k (R : Ending → World → Prop) (w : World) (ok : Nat → Prop) (v : Value) (xs : List Lab) (key : ByteArray) (hok : ∀ k, ok k → k < w.heap.size) (hx : SlK labK 2 w ok v xs) (hl : xs.length ≤ 1073741824)
    (hR : ∀ w', Below w.heap.size w w' → R (.returned (getV (getB xs key))) w') :
    Calls Tryz.prog 128 #[v, .string key] w R := by
  obtain ⟨A, c, rfl, hlc, _⟩ := hx.form
  go_enter Tryz.func128, Tryz.ntmps128
  go_wp2_with fail
  go_loopw [7, 10] (fun _ i wr => ∃ k : Nat, k ≤ xs.length ∧ i = .int .i64 k ∧ Below w.heap.size w wr ∧ ∀ j (hj : j < xs.length), j < k → (xs[j]'hj).key ≠ key) (fun _ i _ => xs.length - (intOf i).toNat)
  case atStart => exact ⟨0, Nat.zero_le _, rfl, Below.refl _ _, fun j hj h => absurd h (Nat.not_lt_zero _)⟩
  case round =>
    obtain ⟨k, hk, rfl, hB, hin⟩ := hrel
    have Hin := Lib.hid hin
    clear hin
    by_cases hlt : k < xs.length
    · have hx' := hx.below labOk hB hok
      obtain ⟨b, off, c', he, _, _, hbk, hbl, hce⟩ := hx'.addr (by omega)
      simp only [Value.slice.injEq] at he
      obtain ⟨rfl, -, rfl⟩ := he
      obtain ⟨c0, c1⟩ := lab_cells hce k hlt
      clear hce
      have hB2 : Below w.heap.size w (wr.alloc (.cells #[.string (xs[k]'hlt).key, .string (xs[k]'hlt).val] 108)) := hB.trans ((Below.alloc (Below.refl _ _) (Nat.le_refl _) _ : Below wr.heap.size wr _).mono hB.size)
      cases hd : ((xs[k]'hlt).key.toList == key.toList) with
      | true =>
        have hv := getB_at hlt Hin.out (ba_toList_inj.1 (eq_of_beq hd))
        have hv2 := hR _ hB2
        rw [hv] at hv2
        clear hv
        go_wp2_with fail
        exact hv2
      | false =>
        have hne : (xs[k]'hlt).key ≠ key := fun h => by rw [h] at hd; simp at hd
        have Hne := Lib.hid hne
        clear hne
        go_wp2_with fail
        go_roundw
        case rel => exact ⟨k + 1, by omega, by go_num, hB2, fun j hj h => by
          rcases Nat.lt_or_ge j k with h' | h'
          · exact Hin.out j hj h'
          · obtain rfl : j = k := by omega
            exact Hne.out⟩
        case measure => simp [intOf]; omega
    · have hv2 := hR _ hB
      have hv := getB_none (xs := xs) (key := key) (fun j hj => Hin.out j hj (by omega))
      rw [hv] at hv2
      clear hv
      go_wp2_with fail
      exact hv2

/-- The place of a key. -/
def findL (xs : List Lab) (key : ByteArray) : Int := match xs.findIdx? (fun l => decide (l.key = key)) with | some k => k | none => -1
theorem findL_at {xs : List Lab} {key : ByteArray} {k : Nat} (hk : k < xs.length) (h : ∀ j (hj : j < xs.length), j < k → (xs[j]'hj).key ≠ key) (he : (xs[k]'hk).key = key) : findL xs key = k := by
  unfold findL
  rw [List.findIdx?_eq_some_iff_getElem.2 ⟨hk, by simpa using he, fun j hj => by simpa using h j (by omega) hj⟩]
theorem findL_none {xs : List Lab} {key : ByteArray} (h : ∀ j (hj : j < xs.length), (xs[j]'hj).key ≠ key) : findL xs key = -1 := by
  unfold findL
  rw [List.findIdx?_eq_none_iff.2 ?_]
  intro x hx
  obtain ⟨j, hj, rfl⟩ := List.mem_iff_getElem.1 hx
  simpa using h j hj
theorem findL_cases (xs : List Lab) (key : ByteArray) : (findL xs key = -1 ∧ getB xs key = none) ∨ ∃ k, ∃ hk : k < xs.length, findL xs key = (k : Int) ∧ getB xs key = some (xs[k]'hk).val := by
  cases h : xs.findIdx? (fun l => decide (l.key = key)) with
  | none =>
    left
    have := List.findIdx?_eq_none_iff.1 h
    refine ⟨by unfold findL; rw [h], getB_none fun j hj => by simpa using this _ (List.getElem_mem hj)⟩
  | some k =>
    right
    obtain ⟨hk, h1, h2⟩ := List.findIdx?_eq_some_iff_getElem.1 h
    exact ⟨k, hk, by unfold findL; rw [h], getB_at hk (fun j hj hjk => by simpa using h2 j hjk) (by simpa using h1)⟩

set_option maxRecDepth 100000 in
set_option maxHeartbeats 2000000 in
theorem find_k (R : Ending → World → Prop) (w : World) (ok : Nat → Prop) (v : Value) (xs : List Lab) (key : ByteArray) (hok : ∀ k, ok k → k < w.heap.size) (hx : SlK labK 2 w ok v xs) (hl : xs.length ≤ 1073741824)
    (hR : ∀ w', Below w.heap.size w w' → R (.returned (.int .i64 (findL xs key))) w') :
    Calls Tryz.prog 193 #[v, .string key] w R := by
  obtain ⟨A, c, rfl, hlc, _⟩ := hx.form
  go_enter Tryz.func193, Tryz.ntmps193
  go_wp2_with fail
  go_loopw [5] (fun i wr => ∃ k : Nat, k ≤ xs.length ∧ i = .int .i64 k ∧ Below w.heap.size w wr ∧ ∀ j (hj : j < xs.length), j < k → (xs[j]'hj).key ≠ key) (fun i _ => xs.length - (intOf i).toNat)
  case atStart => exact ⟨0, Nat.zero_le _, rfl, Below.refl _ _, fun j hj h => absurd h (Nat.not_lt_zero _)⟩
  case round =>
    obtain ⟨k, hk, rfl, hB, hin⟩ := hrel
    have Hin := Lib.hid hin
    clear hin
    by_cases hlt : k < xs.length
    · have hx' := hx.below labOk hB hok
      obtain ⟨b, off, c', he, _, _, hbk, hbl, hce⟩ := hx'.addr (by omega)
      simp only [Value.slice.injEq] at he
      obtain ⟨rfl, -, rfl⟩ := he
      obtain ⟨c0, c1⟩ := lab_cells hce k hlt
      clear hce
      cases hd : ((xs[k]'hlt).key.toList == key.toList) with
      | true =>
        have hv := findL_at hlt Hin.out (ba_toList_inj.1 (eq_of_beq hd))
        have hv2 := hR _ hB
        rw [hv] at hv2
        clear hv
        go_wp2_with fail
        exact hv2
      | false =>
        have hne : (xs[k]'hlt).key ≠ key := fun h => by rw [h] at hd; simp at hd
        have Hne := Lib.hid hne
        clear hne
        go_wp2_with fail
        go_roundw
        case rel => exact ⟨k + 1, by omega, by go_num, hB, fun j hj h => by
          rcases Nat.lt_or_ge j k with h' | h'
          · exact Hin.out j hj h'
          · obtain rfl : j = k := by omega
            exact Hne.out⟩
        case measure => simp [intOf]; omega
    · have hv2 := hR _ hB
      have hv := findL_none (xs := xs) (key := key) (fun j hj => Hin.out j hj (by omega))
      rw [hv] at hv2
      clear hv
      go_wp2_with fail
      exact hv2

set_option maxRecDepth 100000 in
theorem rget_k (R : Ending → World → Prop) (w : World) (ok : Nat → Prop) (v : Value) (xs : List Lab) (key : ByteArray) (hok : ∀ k, ok k → k < w.heap.size) (hx : SlK labK 2 w ok v xs) (hl : xs.length ≤ 1073741824)
    (hR : ∀ w', Below w.heap.size w w' → R (.returned (getV (getB xs key))) w') :
    Calls Tryz.prog 146 #[v, .string key] w R := by
  rcases findL_cases xs key with ⟨h1, h2⟩ | ⟨k, hk, h1, h2⟩
  · rw [h2] at hR
    have H1 := Lib.hid h1
    clear h1
    go_enter Tryz.func146, Tryz.ntmps146
    go_wp2_with fail
    refine find_k _ _ ok _ xs key hok hx hl ?_
    intro w1 hB
    rw [H1.out]
    go_wp2_with fail
    exact hB
  · rw [h2] at hR
    have H1 := Lib.hid h1
    clear h1
    have hx0 := hx
    obtain ⟨A, c, rfl, hlc, _⟩ := hx.form
    go_enter Tryz.func146, Tryz.ntmps146
    go_wp2_with fail
    refine find_k _ _ ok _ xs key hok hx hl ?_
    intro w1 hB
    rw [H1.out]
    have hx' := hx.below labOk hB hok
    obtain ⟨b, off, c', he, _, _, hbk, hbl, hce⟩ := hx'.addr (by omega)
    simp only [Value.slice.injEq] at he
    obtain ⟨rfl, -, rfl⟩ := he
    obtain ⟨c0, c1⟩ := lab_cells hce k hk
    clear hce
    go_wp2_with fail
    exact hB


set_option maxRecDepth 100000 in
set_option maxHeartbeats 2000000 in
theorem equal_k (R : Ending → World → Prop) (w : World) (ok : Nat → Prop) (v v' : Value) (xs ys : List Lab) (hok : ∀ k, ok k → k < w.heap.size) (hx : SlK labK 2 w ok v xs) (hy : SlK labK 2 w ok v' ys) (hl : xs.length ≤ 1073741824) (hl' : ys.length ≤ 1073741824)
    (hR : ∀ w', Below w.heap.size w w' → R (.returned (.bool (decide (xs = ys)))) w') :
    Calls Tryz.prog 71 #[v, v'] w R := by
  obtain ⟨A, c, rfl, hlc, _⟩ := hx.form
  obtain ⟨A', c', rfl, hlc', _⟩ := hy.form
  have HR := Lib.hid hR
  clear hR
  by_cases hll : xs.length = ys.length
  · go_enter Tryz.func71, Tryz.ntmps71
    go_wp2_with fail
    go_loopw [5, 13] (fun _ i wr => ∃ k : Nat, k ≤ xs.length ∧ i = .int .i64 k ∧ Below w.heap.size w wr ∧ xs.take k = ys.take k) (fun _ i _ => xs.length - (intOf i).toNat)
    case atStart => exact ⟨0, Nat.zero_le _, rfl, Below.refl _ _, by simp⟩
    case round =>
      obtain ⟨k, hk, rfl, hB, hin⟩ := hrel
      have Hin := Lib.hid hin
      clear hin
      by_cases hlt : k < xs.length
      · have hx' := hx.below labOk hB hok
        have hy' := hy.below labOk hB hok
        obtain ⟨b, off, c2, he, _, _, hbk, hbl, hce⟩ := hx'.addr (by omega)
        simp only [Value.slice.injEq] at he
        obtain ⟨rfl, -, rfl⟩ := he
        obtain ⟨c0, c1⟩ := lab_cells hce k hlt
        obtain ⟨b', off', c2', he, _, _, hbk', hbl', hce'⟩ := hy'.addr (by omega)
        simp only [Value.slice.injEq] at he
        obtain ⟨rfl, -, rfl⟩ := he
        obtain ⟨d0, d1⟩ := lab_cells hce' k (by omega)
        clear hce hce'
        have HN : Hid (∀ w', Below w.heap.size w w' → ¬ ((xs[k]'hlt).key.toList = (ys[k]'(by omega)).key.toList ∧ (xs[k]'hlt).val.toList = (ys[k]'(by omega)).val.toList) → R (.returned (.bool false)) w') := by
          intro w' hb hne
          have := HR.out w' hb
          rwa [show decide (xs = ys) = false by
            simp only [decide_eq_false_iff_not]
            rintro rfl
            exact hne ⟨rfl, rfl⟩] at this
        have HT : Hid ((xs[k]'hlt).key.toList = (ys[k]'(by omega)).key.toList → (xs[k]'hlt).val.toList = (ys[k]'(by omega)).val.toList → xs.take (k + 1) = ys.take (k + 1)) := by
          intro h1 h2
          rw [take_snoc xs k hlt, take_snoc ys k (by omega), Hin.out]
          congr 2
          have e1 := ba_toList_inj.1 h1
          have e2 := ba_toList_inj.1 h2
          cases hxk : xs[k]'hlt
          cases hyk : ys[k]'(by omega)
          rw [hxk, hyk] at e1 e2
          simp at e1 e2
          rw [e1, e2]
        generalize (xs[k]'hlt).key = xk at *
        generalize (xs[k]'hlt).val = xv at *
        generalize (ys[k]'(by omega)).key = yk at *
        generalize (ys[k]'(by omega)).val = yv at *
        by_cases h1 : xk.toList = yk.toList
        · by_cases h2 : xv.toList = yv.toList
          · go_wp2_with fail
            go_region
            go_wp2_with fail
            go_roundw
            case rel => exact ⟨k + 1, by omega, by go_num, hB.drew, HT.out h1 h2⟩
            case measure => simp [intOf]; omega
          · have Hf := HN.out wr.drew hB.drew (fun h => h2 h.2)
            go_wp2_with fail
            go_region
            go_wp2_with fail
            exact Hf
        · have Hf := HN.out wr.drew hB.drew (fun h => h1 h.1)
          go_wp2_with fail
          go_region
          go_wp2_with fail
          exact Hf
      · have hv2 := HR.out _ hB
        obtain rfl : k = xs.length := by omega
        have he : xs = ys := by
          have := Hin.out
          rwa [List.take_length, List.take_of_length_le (by omega)] at this
        rw [show decide (xs = ys) = true by simpa using he] at hv2
        clear he
        go_wp2_with fail
        exact hv2
  · have hv2 := HR.out _ (Below.refl _ _)
    rw [show decide (xs = ys) = false by
      simp only [decide_eq_false_iff_not]
      rintro rfl
      exact hll rfl] at hv2
    go_enter Tryz.func71, Tryz.ntmps71
    have h3 : ((xs.length : Int) != (ys.length : Int)) = true := by simp; omega
    go_wp2_with fail
    exact hv2

set_option maxRecDepth 100000 in
set_option maxHeartbeats 2000000 in
theorem rsame_k (R : Ending → World → Prop) (w : World) (ok : Nat → Prop) (v v' : Value) (xs ys : List Lab) (hok : ∀ k, ok k → k < w.heap.size) (hx : SlK labK 2 w ok v xs) (hy : SlK labK 2 w ok v' ys) (hl : xs.length ≤ 1073741824) (hl' : ys.length ≤ 1073741824)
    (hR : ∀ w', Below w.heap.size w w' → R (.returned (.bool (decide (xs = ys)))) w') :
    Calls Tryz.prog 69 #[v, v'] w R := by
  obtain ⟨A, c, rfl, hlc, _⟩ := hx.form
  obtain ⟨A', c', rfl, hlc', _⟩ := hy.form
  have HR := Lib.hid hR
  clear hR
  by_cases hll : xs.length = ys.length
  · go_enter Tryz.func69, Tryz.ntmps69
    go_wp2_with fail
    go_loopw [5] (fun i wr => ∃ k : Nat, k ≤ xs.length ∧ i = .int .i64 k ∧ Below w.heap.size w wr ∧ xs.take k = ys.take k) (fun i _ => xs.length - (intOf i).toNat)
    case atStart => exact ⟨0, Nat.zero_le _, rfl, Below.refl _ _, by simp⟩
    case round =>
      obtain ⟨k, hk, rfl, hB, hin⟩ := hrel
      have Hin := Lib.hid hin
      clear hin
      by_cases hlt : k < xs.length
      · have hx' := hx.below labOk hB hok
        have hy' := hy.below labOk hB hok
        obtain ⟨b, off, c2, he, _, _, hbk, hbl, hce⟩ := hx'.addr (by omega)
        simp only [Value.slice.injEq] at he
        obtain ⟨rfl, -, rfl⟩ := he
        obtain ⟨c0, c1⟩ := lab_cells hce k hlt
        obtain ⟨b', off', c2', he, _, _, hbk', hbl', hce'⟩ := hy'.addr (by omega)
        simp only [Value.slice.injEq] at he
        obtain ⟨rfl, -, rfl⟩ := he
        obtain ⟨d0, d1⟩ := lab_cells hce' k (by omega)
        clear hce hce'
        have HN : Hid (∀ w', Below w.heap.size w w' → ¬ ((xs[k]'hlt).key.toList = (ys[k]'(by omega)).key.toList ∧ (xs[k]'hlt).val.toList = (ys[k]'(by omega)).val.toList) → R (.returned (.bool false)) w') := by
          intro w' hb hne
          have := HR.out w' hb
          rwa [show decide (xs = ys) = false by
            simp only [decide_eq_false_iff_not]
            rintro rfl
            exact hne ⟨rfl, rfl⟩] at this
        have HT : Hid ((xs[k]'hlt).key.toList = (ys[k]'(by omega)).key.toList → (xs[k]'hlt).val.toList = (ys[k]'(by omega)).val.toList → xs.take (k + 1) = ys.take (k + 1)) := by
          intro h1 h2
          rw [take_snoc xs k hlt, take_snoc ys k (by omega), Hin.out]
          congr 2
          have e1 := ba_toList_inj.1 h1
          have e2 := ba_toList_inj.1 h2
          cases hxk : xs[k]'hlt
          cases hyk : ys[k]'(by omega)
          rw [hxk, hyk] at e1 e2
          simp at e1 e2
          rw [e1, e2]
        generalize (xs[k]'hlt).key = xk at *
        generalize (xs[k]'hlt).val = xv at *
        generalize (ys[k]'(by omega)).key = yk at *
        generalize (ys[k]'(by omega)).val = yv at *
        by_cases h1 : xk.toList = yk.toList
        · by_cases h2 : xv.toList = yv.toList
          · go_wp2_with fail
            go_region
            go_wp2_with fail
            go_roundw
            case rel => exact ⟨k + 1, by omega, by go_num, hB.drew, HT.out h1 h2⟩
            case measure => simp [intOf]; omega
          · have Hf := HN.out wr.drew hB.drew (fun h => h2 h.2)
            go_wp2_with fail
            go_region
            go_wp2_with fail
            exact Hf
        · have Hf := HN.out wr.drew hB.drew (fun h => h1 h.1)
          go_wp2_with fail
          go_region
          go_wp2_with fail
          exact Hf
      · have hv2 := HR.out _ hB
        obtain rfl : k = xs.length := by omega
        have he : xs = ys := by
          have := Hin.out
          rwa [List.take_length, List.take_of_length_le (by omega)] at this
        rw [show decide (xs = ys) = true by simpa using he] at hv2
        clear he
        go_wp2_with fail
        exact hv2
  · have hv2 := HR.out _ (Below.refl _ _)
    rw [show decide (xs = ys) = false by
      simp only [decide_eq_false_iff_not]
      rintro rfl
      exact hll rfl] at hv2
    go_enter Tryz.func69, Tryz.ntmps69
    have h3 : ((xs.length : Int) != (ys.length : Int)) = true := by simp; omega
    go_wp2_with fail
    exact hv2
end Go.Proofs.YtmenipaibjifiaaGreatDoor

namespace Go.Proofs.YtmenipaibjifiaaGreatDoor
open Go.RowKit Go.BigFrame

/-- The first fault: its place and its number. -/
def firstErr {α : Type} (f : α → Int) : List α → Nat → Int × Int
  | [], _ => (0, 0)
  | x :: r, i => if f x = 0 then firstErr f r (i + 1) else ((i : Int), f x)
theorem firstErr_none {α : Type} {f : α → Int} : ∀ {l : List α} (i : Nat), (∀ j (hj : j < l.length), f (l[j]'hj) = 0) → firstErr f l i = (0, 0)
  | [], _, _ => rfl
  | x :: r, i, h => by
    unfold firstErr
    rw [if_pos (show f x = 0 from h 0 (by simp))]
    exact firstErr_none (i + 1) (fun j hj => by have := h (j + 1) (by simp; omega); simpa using this)
theorem firstErr_at {α : Type} {f : α → Int} : ∀ {l : List α} (i k : Nat) (hk : k < l.length), (∀ j (hj : j < l.length), j < k → f (l[j]'hj) = 0) → f (l[k]'hk) ≠ 0 → firstErr f l i = (((i + k : Nat) : Int), f (l[k]'hk))
  | [], _, _, hk, _, _ => by simp at hk
  | x :: r, i, 0, hk, _, hne => by
    unfold firstErr
    rw [if_neg (show ¬ f x = 0 from hne)]
    rfl
  | x :: r, i, k + 1, hk, h, hne => by
    unfold firstErr
    rw [if_pos (show f x = 0 from h 0 (by simp) (by omega))]
    have := firstErr_at (l := r) (i + 1) k (by simp at hk; omega) (fun j hj hjk => by have := h (j + 1) (by simp; omega) (by omega); simpa using this) (by simpa using hne)
    rw [this]
    simp
    omega
def tolsChk (l : List Tol) : Int × Int := if 16 < l.length then (0, 47) else firstErr tolErr l 0
theorem tol_cells {w : World} {ok : Nat → Prop} {b off : Nat} {l : List Tol} (h : ∀ j (hj : j < l.length), ∃ cs, tolK w ok (l[j]'hj) cs ∧ cs.length = 4 ∧ ∀ i u, cs[i]? = some u → w.cell? ⟨b, off + (j * 4 + i), none⟩ = some u) (k : Nat) (hk : k < l.length) :
    w.cell? ⟨b, off + k * 4, none⟩ = some (.string (l[k]'hk).key) ∧ w.cell? ⟨b, off + k * 4 + 1, none⟩ = some (.string (l[k]'hk).op) ∧ w.cell? ⟨b, off + k * 4 + 2, none⟩ = some (.string (l[k]'hk).val) ∧ w.cell? ⟨b, off + k * 4 + 3, none⟩ = some (.string (l[k]'hk).eff) := by
  obtain ⟨cs, h1, _, hc⟩ := h k hk
  cases h1
  exact ⟨hc 0 _ rfl, hc 1 _ rfl, hc 2 _ rfl, hc 3 _ rfl⟩
set_option maxRecDepth 100000 in
set_option maxHeartbeats 4000000 in
theorem ctols_k (R : Ending → World → Prop) (w : World) (ok : Nat → Prop) (v : Value) (xs : List Tol) (hG : GOk w) (hok : ∀ k, ok k → k < w.heap.size) (hx : SlK tolK 4 w ok v xs) (hs : ∀ s ∈ xs, s.key.size ≤ 1048576 ∧ s.val.size ≤ 1048576) (hl : xs.length ≤ 1073741824)
    (hR : ∀ w', Below w.heap.size w w' → R (.returned (.tuple #[.int .i64 (tolsChk xs).1, .int .i64 (tolsChk xs).2])) w') :
    Calls Tryz.prog 106 #[v] w R := by
  obtain ⟨A, c, rfl, hlc, _⟩ := hx.form
  have HR := Lib.hid hR
  have HS := Lib.hid hs
  have HG := Lib.hid hG
  clear hR hs hG
  by_cases h16 : 16 < xs.length
  · have hv := HR.out w (Below.refl _ _)
    rw [show tolsChk xs = (0, 47) by unfold tolsChk; rw [if_pos h16]] at hv
    have hcast : (16 : Int) < (xs.length : Int) := by omega
    go_enter Tryz.func106, Tryz.ntmps106
    go_wp2_with fail
    exact hv
  · have hcast : ¬ (16 : Int) < (xs.length : Int) := by omega
    have HC := Lib.hid (show tolsChk xs = firstErr tolErr xs 0 by unfold tolsChk; rw [if_neg h16])
    have hln : xs.length ≤ 16 := by omega
    clear h16
    go_enter Tryz.func106, Tryz.ntmps106
    go_wp2_with fail
    go_loopw [12] (fun i wr => ∃ k : Nat, k ≤ xs.length ∧ i = .int .i64 k ∧ Below w.heap.size w wr ∧ ∀ j (hj : j < xs.length), j < k → tolErr (xs[j]'hj) = 0) (fun i _ => xs.length - (intOf i).toNat)
    case atStart => exact ⟨0, Nat.zero_le _, rfl, Below.refl _ _, fun _ _ h => absurd h (Nat.not_lt_zero _)⟩
    case round =>
      obtain ⟨k, hk, rfl, hB, hz⟩ := hrel
      have HB := Lib.hid hB
      have HZ := Lib.hid hz
      by_cases hlt : k < xs.length
      · have hx' := hx.below tolOk hB hok
        obtain ⟨b, off, c2, he, _, _, hbk, hbl, hce⟩ := hx'.addr (by omega)
        simp only [Value.slice.injEq] at he
        obtain ⟨rfl, -, rfl⟩ := he
        obtain ⟨y0, y1, y2, y3⟩ := tol_cells hce k hlt
        obtain ⟨s, hs⟩ : ∃ s, xs[k]'hlt = s := ⟨_, rfl⟩
        have fit := HS.out s (by rw [← hs]; exact List.getElem_mem hlt)
        rw [hs] at y0 y1 y2 y3
        have HSX := Lib.hid hs
        clear hce hx' hB hz hs
        go_wp2_with fail
        refine ctol_k _ _ s (GOk.below HG.out (HB.out.alloc HB.out.size _)) fit ?_
        intro w3 g3
        have B3 := Lib.hid ((HB.out.alloc HB.out.size _).trans (g3.mono (HB.out.alloc HB.out.size _).size))
        clear g3
        by_cases he : tolErr s = 0
        · rw [he]
          have HE := Lib.hid he
          clear he
          go_wp2_with fail
          go_roundw
          case rel => exact ⟨k + 1, by omega, by go_num, B3.out, fun j hj hjk => by
            by_cases hjk2 : j < k
            · exact HZ.out j hj hjk2
            · obtain rfl : j = k := by omega
              rw [HSX.out]; exact HE.out⟩
          case measure => simp [intOf]; omega
        · have hv := HR.out w3 B3.out
          rw [HC.out, firstErr_at 0 k hlt HZ.out (by rw [HSX.out]; exact he), HSX.out, Nat.zero_add] at hv
          obtain ⟨er, her⟩ : ∃ er, er = tolErr s := ⟨_, rfl⟩
          rw [← her] at he hv
          rw [← her]
          clear her
          go_wp2_with fail
          exact hv
      · have hv := HR.out wr hB
        rw [HC.out, firstErr_none 0 (fun j hj => HZ.out j hj (by omega))] at hv
        obtain rfl : k = xs.length := by omega
        clear hB hz
        go_wp2_with fail
        exact hv
set_option maxRecDepth 100000 in
set_option maxHeartbeats 4000000 in
theorem rctols_k (R : Ending → World → Prop) (w : World) (ok : Nat → Prop) (v : Value) (xs : List Tol) (hok : ∀ k, ok k → k < w.heap.size) (hx : SlK tolK 4 w ok v xs) (hs : ∀ s ∈ xs, s.key.size ≤ 1048576 ∧ s.val.size ≤ 1048576) (hl : xs.length ≤ 1073741824)
    (hR : ∀ w', Below w.heap.size w w' → R (.returned (.tuple #[.int .i64 (tolsChk xs).1, .int .i64 (tolsChk xs).2])) w') :
    Calls Tryz.prog 108 #[v] w R := by
  obtain ⟨A, c, rfl, hlc, _⟩ := hx.form
  have HR := Lib.hid hR
  have HS := Lib.hid hs
  skip
  clear hR hs
  by_cases h16 : 16 < xs.length
  · have hv := HR.out w (Below.refl _ _)
    rw [show tolsChk xs = (0, 47) by unfold tolsChk; rw [if_pos h16]] at hv
    have hcast : (16 : Int) < (xs.length : Int) := by omega
    go_enter Tryz.func108, Tryz.ntmps108
    go_wp2_with fail
    exact hv
  · have hcast : ¬ (16 : Int) < (xs.length : Int) := by omega
    have HC := Lib.hid (show tolsChk xs = firstErr tolErr xs 0 by unfold tolsChk; rw [if_neg h16])
    have hln : xs.length ≤ 16 := by omega
    clear h16
    go_enter Tryz.func108, Tryz.ntmps108
    go_wp2_with fail
    go_loopw [4] (fun i wr => ∃ k : Nat, k ≤ xs.length ∧ i = .int .i64 k ∧ Below w.heap.size w wr ∧ ∀ j (hj : j < xs.length), j < k → tolErr (xs[j]'hj) = 0) (fun i _ => xs.length - (intOf i).toNat)
    case atStart => exact ⟨0, Nat.zero_le _, rfl, Below.refl _ _, fun _ _ h => absurd h (Nat.not_lt_zero _)⟩
    case round =>
      obtain ⟨k, hk, rfl, hB, hz⟩ := hrel
      have HB := Lib.hid hB
      have HZ := Lib.hid hz
      by_cases hlt : k < xs.length
      · have hx' := hx.below tolOk hB hok
        obtain ⟨b, off, c2, he, _, _, hbk, hbl, hce⟩ := hx'.addr (by omega)
        simp only [Value.slice.injEq] at he
        obtain ⟨rfl, -, rfl⟩ := he
        obtain ⟨y0, y1, y2, y3⟩ := tol_cells hce k hlt
        obtain ⟨s, hs⟩ : ∃ s, xs[k]'hlt = s := ⟨_, rfl⟩
        have fit := HS.out s (by rw [← hs]; exact List.getElem_mem hlt)
        rw [hs] at y0 y1 y2 y3
        have HSX := Lib.hid hs
        clear hce hx' hB hz hs
        go_wp2_with fail
        refine rctol_k _ _ s fit ?_
        intro w3 g3
        have B3 := Lib.hid (HB.out.trans (g3.mono HB.out.size))
        clear g3
        by_cases he : tolErr s = 0
        · rw [he]
          have HE := Lib.hid he
          clear he
          go_wp2_with fail
          go_roundw
          case rel => exact ⟨k + 1, by omega, by go_num, B3.out, fun j hj hjk => by
            by_cases hjk2 : j < k
            · exact HZ.out j hj hjk2
            · obtain rfl : j = k := by omega
              rw [HSX.out]; exact HE.out⟩
          case measure => simp [intOf]; omega
        · have hv := HR.out w3 B3.out
          rw [HC.out, firstErr_at 0 k hlt HZ.out (by rw [HSX.out]; exact he), HSX.out, Nat.zero_add] at hv
          obtain ⟨er, her⟩ : ∃ er, er = tolErr s := ⟨_, rfl⟩
          rw [← her] at he hv
          rw [← her]
          clear her
          go_wp2_with fail
          exact hv
      · have hv := HR.out wr hB
        rw [HC.out, firstErr_none 0 (fun j hj => HZ.out j hj (by omega))] at hv
        obtain rfl : k = xs.length := by omega
        clear hB hz
        go_wp2_with fail
        exact hv
end Go.Proofs.YtmenipaibjifiaaGreatDoor
