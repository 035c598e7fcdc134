/-
Lists of labels: Check, Get, Find, Same, Copy, Clone (package labels; the reference's). Lists whose texts have at most 1048576 bytes.
Lists of labels: Get, Find, Same, Equal, Copy, Clone.
taint, berthref04: CheckTolerations.
berthref06: SameTaints, SameItems, SameTolerations.
-/
import Derived.Test.YtdceflgemhcgcaaGreatDoorP10
import Derived.Test.YtdceflgemhcgcaaGreatDoorP03
import Derived.BigQuiet
import Derived.BigRegion
import Derived.WalkLawsBesides
import Derived.Test.YtdceflgemhcgcaaGreatDoorP11
set_option linter.unusedVariables false
set_option linter.unusedSimpArgs false
namespace Go.Proofs.YtdceflgemhcgcaaGreatDoor
open Go.RowKit Go.BigFrame

/-- Go's '<' on texts. -/
def ltB (a b : ByteArray) : Bool := Op.bytesLess a.toList b.toList
theorem lab_cells {w : World} {ok : Nat → Prop} {b off : Nat} {l : List Lab} (h : ∀ j (hj : j < l.length), ∃ cs, labK w ok (l[j]'hj) cs ∧ cs.length = 2 ∧ ∀ i u, cs[i]? = some u → w.cell? ⟨b, off + (j * 2 + i), none⟩ = some u) (k : Nat) (hk : k < l.length) :
    w.cell? ⟨b, off + k * 2, none⟩ = some (.string (l[k]'hk).key) ∧ w.cell? ⟨b, off + k * 2 + 1, none⟩ = some (.string (l[k]'hk).val) := by
  obtain ⟨cs, h1, _, hc⟩ := h k hk
  cases h1
  exact ⟨hc 0 _ rfl, hc 1 _ rfl⟩

end Go.Proofs.YtdceflgemhcgcaaGreatDoor

namespace Go.Proofs.YtdceflgemhcgcaaGreatDoor
open Go.RowKit Go.BigFrame

def findL (xs : List Lab) (key : ByteArray) : Int := match xs.findIdx? (fun l => decide (l.key = key)) with | some k => k | none => -1
theorem findL_at {xs : List Lab} {key : ByteArray} {k : Nat} (hk : k < xs.length) (h : ∀ j (hj : j < xs.length), j < k → (xs[j]'hj).key ≠ key) (he : (xs[k]'hk).key = key) : findL xs key = k := by
  unfold findL
  rw [List.findIdx?_eq_some_iff_getElem.2 ⟨hk, by simpa using he, fun j hj => by simpa using h j (by omega) hj⟩]
theorem findL_none {xs : List Lab} {key : ByteArray} (h : ∀ j (hj : j < xs.length), (xs[j]'hj).key ≠ key) : findL xs key = -1 := by
  unfold findL
  rw [List.findIdx?_eq_none_iff.2 ?_]
  intro x hx
  obtain ⟨j, hj, rfl⟩ := List.mem_iff_getElem.1 hx
  simpa using h j hj
set_option maxRecDepth 100000 in
set_option maxHeartbeats 2000000 in
theorem find_k (R : Ending → World → Prop) (w : World) (ok : Nat → Prop) (v : Value) (xs : List Lab) (key : ByteArray) (hok : ∀ k, ok k → k < w.heap.size) (hx : SlK labK 2 w ok v xs) (hl : xs.length ≤ 1073741824)
    (hR : ∀ w', Below w.heap.size w w' → R (.returned (.int .i64 (findL xs key))) w') :
    Calls Tryz.prog 138 #[v, .string key] w R := by
  obtain ⟨A, c, rfl, hlc, _⟩ := hx.form
  go_enter Tryz.func138, Tryz.ntmps138
  go_wp2_with fail
  go_loopw [5] (fun i wr => ∃ k : Nat, k ≤ xs.length ∧ i = .int .i64 k ∧ Below w.heap.size w wr ∧ ∀ j (hj : j < xs.length), j < k → (xs[j]'hj).key ≠ key) (fun i _ => xs.length - (intOf i).toNat)
  case atStart => exact ⟨0, Nat.zero_le _, rfl, Below.refl _ _, fun j hj h => absurd h (Nat.not_lt_zero _)⟩
  case round =>
    obtain ⟨k, hk, rfl, hB, hin⟩ := hrel
    have Hin := Lib.hid hin
    clear hin
    by_cases hlt : k < xs.length
    · have hx' := hx.below labOk hB hok
      obtain ⟨b, off, c', he, _, _, hbk, hbl, hce⟩ := hx'.addr (by omega)
      simp only [Value.slice.injEq] at he
      obtain ⟨rfl, -, rfl⟩ := he
      obtain ⟨c0, c1⟩ := lab_cells hce k hlt
      clear hce
      cases hd : ((xs[k]'hlt).key.toList == key.toList) with
      | true =>
        have hv := findL_at hlt Hin.out (ba_toList_inj.1 (eq_of_beq hd))
        have hv2 := hR _ hB
        rw [hv] at hv2
        clear hv
        go_wp2_with fail
        exact hv2
      | false =>
        have hne : (xs[k]'hlt).key ≠ key := fun h => by rw [h] at hd; simp at hd
        have Hne := Lib.hid hne
        clear hne
        go_wp2_with fail
        go_roundw
        case rel => exact ⟨k + 1, by omega, by go_num, hB, fun j hj h => by
          rcases Nat.lt_or_ge j k with h' | h'
          · exact Hin.out j hj h'
          · obtain rfl : j = k := by omega
            exact Hne.out⟩
        case measure => simp [intOf]; omega
    · have hv2 := hR _ hB
      have hv := findL_none (xs := xs) (key := key) (fun j hj => Hin.out j hj (by omega))
      rw [hv] at hv2
      clear hv
      go_wp2_with fail
      exact hv2

set_option maxRecDepth 100000 in
set_option maxHeartbeats 2000000 in
theorem rsame_k (R : Ending → World → Prop) (w : World) (ok : Nat → Prop) (v v' : Value) (xs ys : List Lab) (hok : ∀ k, ok k → k < w.heap.size) (hx : SlK labK 2 w ok v xs) (hy : SlK labK 2 w ok v' ys) (hl : xs.length ≤ 1073741824) (hl' : ys.length ≤ 1073741824)
    (hR : ∀ w', Below w.heap.size w w' → R (.returned (.bool (decide (xs = ys)))) w') :
    Calls Tryz.prog 72 #[v, v'] w R := by
  obtain ⟨A, c, rfl, hlc, _⟩ := hx.form
  obtain ⟨A', c', rfl, hlc', _⟩ := hy.form
  have HR := Lib.hid hR
  clear hR
  by_cases hll : xs.length = ys.length
  · go_enter Tryz.func72, Tryz.ntmps72
    go_wp2_with fail
    go_loopw [5] (fun i wr => ∃ k : Nat, k ≤ xs.length ∧ i = .int .i64 k ∧ Below w.heap.size w wr ∧ xs.take k = ys.take k) (fun i _ => xs.length - (intOf i).toNat)
    case atStart => exact ⟨0, Nat.zero_le _, rfl, Below.refl _ _, by simp⟩
    case round =>
      obtain ⟨k, hk, rfl, hB, hin⟩ := hrel
      have Hin := Lib.hid hin
      clear hin
      by_cases hlt : k < xs.length
      · have hx' := hx.below labOk hB hok
        have hy' := hy.below labOk hB hok
        obtain ⟨b, off, c2, he, _, _, hbk, hbl, hce⟩ := hx'.addr (by omega)
        simp only [Value.slice.injEq] at he
        obtain ⟨rfl, -, rfl⟩ := he
        obtain ⟨c0, c1⟩ := lab_cells hce k hlt
        obtain ⟨b', off', c2', he, _, _, hbk', hbl', hce'⟩ := hy'.addr (by omega)
        simp only [Value.slice.injEq] at he
        obtain ⟨rfl, -, rfl⟩ := he
        obtain ⟨d0, d1⟩ := lab_cells hce' k (by omega)
        clear hce hce'
        have HN : Hid (∀ w', Below w.heap.size w w' → ¬ ((xs[k]'hlt).key.toList = (ys[k]'(by omega)).key.toList ∧ (xs[k]'hlt).val.toList = (ys[k]'(by omega)).val.toList) → R (.returned (.bool false)) w') := by
          intro w' hb hne
          have := HR.out w' hb
          rwa [show decide (xs = ys) = false by
            simp only [decide_eq_false_iff_not]
            rintro rfl
            exact hne ⟨rfl, rfl⟩] at this
        have HT : Hid ((xs[k]'hlt).key.toList = (ys[k]'(by omega)).key.toList → (xs[k]'hlt).val.toList = (ys[k]'(by omega)).val.toList → xs.take (k + 1) = ys.take (k + 1)) := by
          intro h1 h2
          rw [take_snoc xs k hlt, take_snoc ys k (by omega), Hin.out]
          congr 2
          have e1 := ba_toList_inj.1 h1
          have e2 := ba_toList_inj.1 h2
          cases hxk : xs[k]'hlt
          cases hyk : ys[k]'(by omega)
          rw [hxk, hyk] at e1 e2
          simp at e1 e2
          rw [e1, e2]
        generalize (xs[k]'hlt).key = xk at *
        generalize (xs[k]'hlt).val = xv at *
        generalize (ys[k]'(by omega)).key = yk at *
        generalize (ys[k]'(by omega)).val = yv at *
        by_cases h1 : xk.toList = yk.toList
        · by_cases h2 : xv.toList = yv.toList
          · go_wp2_with fail
            go_region
            go_wp2_with fail
            go_roundw
            case rel => exact ⟨k + 1, by omega, by go_num, hB.drew, HT.out h1 h2⟩
            case measure => simp [intOf]; omega
          · have Hf := HN.out wr.drew hB.drew (fun h => h2 h.2)
            go_wp2_with fail
            go_region
            go_wp2_with fail
            exact Hf
        · have Hf := HN.out wr.drew hB.drew (fun h => h1 h.1)
          go_wp2_with fail
          go_region
          go_wp2_with fail
          exact Hf
      · have hv2 := HR.out _ hB
        obtain rfl : k = xs.length := by omega
        have he : xs = ys := by
          have := Hin.out
          rwa [List.take_length, List.take_of_length_le (by omega)] at this
        rw [show decide (xs = ys) = true by simpa using he] at hv2
        clear he
        go_wp2_with fail
        exact hv2
  · have hv2 := HR.out _ (Below.refl _ _)
    rw [show decide (xs = ys) = false by
      simp only [decide_eq_false_iff_not]
      rintro rfl
      exact hll rfl] at hv2
    go_enter Tryz.func72, Tryz.ntmps72
    have h3 : ((xs.length : Int) != (ys.length : Int)) = true := by simp; omega
    go_wp2_with fail
    exact hv2
end Go.Proofs.YtdceflgemhcgcaaGreatDoor

namespace Go.Proofs.YtdceflgemhcgcaaGreatDoor
open Go.RowKit Go.BigFrame

/-- The first fault: its place and its number. -/
def firstErr {α : Type} (f : α → Int) : List α → Nat → Int × Int
  | [], _ => (0, 0)
  | x :: r, i => if f x = 0 then firstErr f r (i + 1) else ((i : Int), f x)
theorem firstErr_none {α : Type} {f : α → Int} : ∀ {l : List α} (i : Nat), (∀ j (hj : j < l.length), f (l[j]'hj) = 0) → firstErr f l i = (0, 0)
  | [], _, _ => rfl
  | x :: r, i, h => by
    unfold firstErr
    rw [if_pos (show f x = 0 from h 0 (by simp))]
    exact firstErr_none (i + 1) (fun j hj => by have := h (j + 1) (by simp; omega); simpa using this)
theorem firstErr_at {α : Type} {f : α → Int} : ∀ {l : List α} (i k : Nat) (hk : k < l.length), (∀ j (hj : j < l.length), j < k → f (l[j]'hj) = 0) → f (l[k]'hk) ≠ 0 → firstErr f l i = (((i + k : Nat) : Int), f (l[k]'hk))
  | [], _, _, hk, _, _ => by simp at hk
  | x :: r, i, 0, hk, _, hne => by
    unfold firstErr
    rw [if_neg (show ¬ f x = 0 from hne)]
    rfl
  | x :: r, i, k + 1, hk, h, hne => by
    unfold firstErr
    rw [if_pos (show f x = 0 from h 0 (by simp) (by omega))]
    have := firstErr_at (l := r) (i + 1) k (by simp at hk; omega) (fun j hj hjk => by have := h (j + 1) (by simp; omega) (by omega); simpa using this) (by simpa using hne)
    rw [this]
    simp
    omega
def tolsChk (l : List Tol) : Int × Int := if 16 < l.length then (0, 47) else firstErr tolErr l 0
theorem tol_cells {w : World} {ok : Nat → Prop} {b off : Nat} {l : List Tol} (h : ∀ j (hj : j < l.length), ∃ cs, tolK w ok (l[j]'hj) cs ∧ cs.length = 4 ∧ ∀ i u, cs[i]? = some u → w.cell? ⟨b, off + (j * 4 + i), none⟩ = some u) (k : Nat) (hk : k < l.length) :
    w.cell? ⟨b, off + k * 4, none⟩ = some (.string (l[k]'hk).key) ∧ w.cell? ⟨b, off + k * 4 + 1, none⟩ = some (.string (l[k]'hk).op) ∧ w.cell? ⟨b, off + k * 4 + 2, none⟩ = some (.string (l[k]'hk).val) ∧ w.cell? ⟨b, off + k * 4 + 3, none⟩ = some (.string (l[k]'hk).eff) := by
  obtain ⟨cs, h1, _, hc⟩ := h k hk
  cases h1
  exact ⟨hc 0 _ rfl, hc 1 _ rfl, hc 2 _ rfl, hc 3 _ rfl⟩
set_option maxRecDepth 100000 in
set_option maxHeartbeats 4000000 in
theorem ctols_k (R : Ending → World → Prop) (w : World) (ok : Nat → Prop) (v : Value) (xs : List Tol) (hG : GOk w) (hok : ∀ k, ok k → k < w.heap.size) (hx : SlK tolK 4 w ok v xs) (hs : ∀ s ∈ xs, s.key.size ≤ 1048576 ∧ s.val.size ≤ 1048576) (hl : xs.length ≤ 1073741824)
    (hR : ∀ w', Below w.heap.size w w' → R (.returned (.tuple #[.int .i64 (tolsChk xs).1, .int .i64 (tolsChk xs).2])) w') :
    Calls Tryz.prog 53 #[v] w R := by
  obtain ⟨A, c, rfl, hlc, _⟩ := hx.form
  have HR := Lib.hid hR
  have HS := Lib.hid hs
  have HG := Lib.hid hG
  clear hR hs hG
  by_cases h16 : 16 < xs.length
  · have hv := HR.out w (Below.refl _ _)
    rw [show tolsChk xs = (0, 47) by unfold tolsChk; rw [if_pos h16]] at hv
    have hcast : (16 : Int) < (xs.length : Int) := by omega
    go_enter Tryz.func53, Tryz.ntmps53
    go_wp2_with fail
    exact hv
  · have hcast : ¬ (16 : Int) < (xs.length : Int) := by omega
    have HC := Lib.hid (show tolsChk xs = firstErr tolErr xs 0 by unfold tolsChk; rw [if_neg h16])
    have hln : xs.length ≤ 16 := by omega
    clear h16
    go_enter Tryz.func53, Tryz.ntmps53
    go_wp2_with fail
    go_loopw [12] (fun i wr => ∃ k : Nat, k ≤ xs.length ∧ i = .int .i64 k ∧ Below w.heap.size w wr ∧ ∀ j (hj : j < xs.length), j < k → tolErr (xs[j]'hj) = 0) (fun i _ => xs.length - (intOf i).toNat)
    case atStart => exact ⟨0, Nat.zero_le _, rfl, Below.refl _ _, fun _ _ h => absurd h (Nat.not_lt_zero _)⟩
    case round =>
      obtain ⟨k, hk, rfl, hB, hz⟩ := hrel
      have HB := Lib.hid hB
      have HZ := Lib.hid hz
      by_cases hlt : k < xs.length
      · have hx' := hx.below tolOk hB hok
        obtain ⟨b, off, c2, he, _, _, hbk, hbl, hce⟩ := hx'.addr (by omega)
        simp only [Value.slice.injEq] at he
        obtain ⟨rfl, -, rfl⟩ := he
        obtain ⟨y0, y1, y2, y3⟩ := tol_cells hce k hlt
        obtain ⟨s, hs⟩ : ∃ s, xs[k]'hlt = s := ⟨_, rfl⟩
        have fit := HS.out s (by rw [← hs]; exact List.getElem_mem hlt)
        rw [hs] at y0 y1 y2 y3
        have HSX := Lib.hid hs
        clear hce hx' hB hz hs
        go_wp2_with fail
        refine ctol_k _ _ s (GOk.below HG.out (HB.out.alloc HB.out.size _)) fit ?_
        intro w3 g3
        have B3 := Lib.hid ((HB.out.alloc HB.out.size _).trans (g3.mono (HB.out.alloc HB.out.size _).size))
        clear g3
        by_cases he : tolErr s = 0
        · rw [he]
          have HE := Lib.hid he
          clear he
          go_wp2_with fail
          go_roundw
          case rel => exact ⟨k + 1, by omega, by go_num, B3.out, fun j hj hjk => by
            by_cases hjk2 : j < k
            · exact HZ.out j hj hjk2
            · obtain rfl : j = k := by omega
              rw [HSX.out]; exact HE.out⟩
          case measure => simp [intOf]; omega
        · have hv := HR.out w3 B3.out
          rw [HC.out, firstErr_at 0 k hlt HZ.out (by rw [HSX.out]; exact he), HSX.out, Nat.zero_add] at hv
          obtain ⟨er, her⟩ : ∃ er, er = tolErr s := ⟨_, rfl⟩
          rw [← her] at he hv
          rw [← her]
          clear her
          go_wp2_with fail
          exact hv
      · have hv := HR.out wr hB
        rw [HC.out, firstErr_none 0 (fun j hj => HZ.out j hj (by omega))] at hv
        obtain rfl : k = xs.length := by omega
        clear hB hz
        go_wp2_with fail
        exact hv
set_option maxRecDepth 100000 in
set_option maxHeartbeats 4000000 in
theorem rctols_k (R : Ending → World → Prop) (w : World) (ok : Nat → Prop) (v : Value) (xs : List Tol) (hok : ∀ k, ok k → k < w.heap.size) (hx : SlK tolK 4 w ok v xs) (hs : ∀ s ∈ xs, s.key.size ≤ 1048576 ∧ s.val.size ≤ 1048576) (hl : xs.length ≤ 1073741824)
    (hR : ∀ w', Below w.heap.size w w' → R (.returned (.tuple #[.int .i64 (tolsChk xs).1, .int .i64 (tolsChk xs).2])) w') :
    Calls Tryz.prog 71 #[v] w R := by
  obtain ⟨A, c, rfl, hlc, _⟩ := hx.form
  have HR := Lib.hid hR
  have HS := Lib.hid hs
  skip
  clear hR hs
  by_cases h16 : 16 < xs.length
  · have hv := HR.out w (Below.refl _ _)
    rw [show tolsChk xs = (0, 47) by unfold tolsChk; rw [if_pos h16]] at hv
    have hcast : (16 : Int) < (xs.length : Int) := by omega
    go_enter Tryz.func71, Tryz.ntmps71
    go_wp2_with fail
    exact hv
  · have hcast : ¬ (16 : Int) < (xs.length : Int) := by omega
    have HC := Lib.hid (show tolsChk xs = firstErr tolErr xs 0 by unfold tolsChk; rw [if_neg h16])
    have hln : xs.length ≤ 16 := by omega
    clear h16
    go_enter Tryz.func71, Tryz.ntmps71
    go_wp2_with fail
    go_loopw [4] (fun i wr => ∃ k : Nat, k ≤ xs.length ∧ i = .int .i64 k ∧ Below w.heap.size w wr ∧ ∀ j (hj : j < xs.length), j < k → tolErr (xs[j]'hj) = 0) (fun i _ => xs.length - (intOf i).toNat)
    case atStart => exact ⟨0, Nat.zero_le _, rfl, Below.refl _ _, fun _ _ h => absurd h (Nat.not_lt_zero _)⟩
    case round =>
      obtain ⟨k, hk, rfl, hB, hz⟩ := hrel
      have HB := Lib.hid hB
      have HZ := Lib.hid hz
      by_cases hlt : k < xs.length
      · have hx' := hx.below tolOk hB hok
        obtain ⟨b, off, c2, he, _, _, hbk, hbl, hce⟩ := hx'.addr (by omega)
        simp only [Value.slice.injEq] at he
        obtain ⟨rfl, -, rfl⟩ := he
        obtain ⟨y0, y1, y2, y3⟩ := tol_cells hce k hlt
        obtain ⟨s, hs⟩ : ∃ s, xs[k]'hlt = s := ⟨_, rfl⟩
        have fit := HS.out s (by rw [← hs]; exact List.getElem_mem hlt)
        rw [hs] at y0 y1 y2 y3
        have HSX := Lib.hid hs
        clear hce hx' hB hz hs
        go_wp2_with fail
        refine rctol_k _ _ s fit ?_
        intro w3 g3
        have B3 := Lib.hid (HB.out.trans (g3.mono HB.out.size))
        clear g3
        by_cases he : tolErr s = 0
        · rw [he]
          have HE := Lib.hid he
          clear he
          go_wp2_with fail
          go_roundw
          case rel => exact ⟨k + 1, by omega, by go_num, B3.out, fun j hj hjk => by
            by_cases hjk2 : j < k
            · exact HZ.out j hj hjk2
            · obtain rfl : j = k := by omega
              rw [HSX.out]; exact HE.out⟩
          case measure => simp [intOf]; omega
        · have hv := HR.out w3 B3.out
          rw [HC.out, firstErr_at 0 k hlt HZ.out (by rw [HSX.out]; exact he), HSX.out, Nat.zero_add] at hv
          obtain ⟨er, her⟩ : ∃ er, er = tolErr s := ⟨_, rfl⟩
          rw [← her] at he hv
          rw [← her]
          clear her
          go_wp2_with fail
          exact hv
      · have hv := HR.out wr hB
        rw [HC.out, firstErr_none 0 (fun j hj => HZ.out j hj (by omega))] at hv
        obtain rfl : k = xs.length := by omega
        clear hB hz
        go_wp2_with fail
        exact hv
end Go.Proofs.YtdceflgemhcgcaaGreatDoor

namespace Go.Proofs.YtdceflgemhcgcaaGreatDoor
open Go.RowKit Go.BigFrame

theorem rtaints_k_cells {w : World} {ok : Nat → Prop} {b off : Nat} {l : List Tnt} (h : ∀ j (hj : j < l.length), ∃ cs, tntK w ok (l[j]'hj) cs ∧ cs.length = 3 ∧ ∀ i u, cs[i]? = some u → w.cell? ⟨b, off + (j * 3 + i), none⟩ = some u) (k : Nat) (hk : k < l.length) :
    w.cell? ⟨b, off + k * 3, none⟩ = some (.string (l[k]'hk).key) ∧ w.cell? ⟨b, off + k * 3 + 1, none⟩ = some (.string (l[k]'hk).val) ∧ w.cell? ⟨b, off + k * 3 + 2, none⟩ = some (.string (l[k]'hk).eff) := by
  obtain ⟨cs, h1, _, hc⟩ := h k hk
  cases h1
  exact ⟨hc 0 _ rfl, hc 1 _ rfl, hc 2 _ rfl⟩
set_option maxRecDepth 100000 in
set_option maxHeartbeats 8000000 in
theorem rtaints_k (R : Ending → World → Prop) (w : World) (ok : Nat → Prop) (v v' : Value) (xs ys : List Tnt) (hok : ∀ k, ok k → k < w.heap.size) (hx : SlK tntK 3 w ok v xs) (hy : SlK tntK 3 w ok v' ys) (hl : xs.length ≤ 1073741824) (hl' : ys.length ≤ 1073741824)
    (hR : ∀ w', Below w.heap.size w w' → R (.returned (.bool (decide (xs = ys)))) w') :
    Calls Tryz.prog 73 #[v, v'] w R := by
  obtain ⟨A, c, rfl, hlc, _⟩ := hx.form
  obtain ⟨A', c', rfl, hlc', _⟩ := hy.form
  have HR := Lib.hid hR
  clear hR
  by_cases hll : xs.length = ys.length
  · go_enter Tryz.func73, Tryz.ntmps73
    go_wp2_with fail
    go_loopw [5] (fun i wr => ∃ k : Nat, k ≤ xs.length ∧ i = .int .i64 k ∧ Below w.heap.size w wr ∧ xs.take k = ys.take k) (fun i _ => xs.length - (intOf i).toNat)
    case atStart => exact ⟨0, Nat.zero_le _, rfl, Below.refl _ _, by simp⟩
    case round =>
      obtain ⟨k, hk, rfl, hB, hin⟩ := hrel
      have Hin := Lib.hid hin
      clear hin
      by_cases hlt : k < xs.length
      · have hx' := hx.below tntOk hB hok
        have hy' := hy.below tntOk hB hok
        obtain ⟨b, off, c2, he, _, _, hbk, hbl, hce⟩ := hx'.addr (by omega)
        simp only [Value.slice.injEq] at he
        obtain ⟨rfl, -, rfl⟩ := he
        obtain ⟨c0_, c1_, c2_⟩ := rtaints_k_cells hce k hlt
        obtain ⟨b', off', c2', he, _, _, hbk', hbl', hce'⟩ := hy'.addr (by omega)
        simp only [Value.slice.injEq] at he
        obtain ⟨rfl, -, rfl⟩ := he
        obtain ⟨d0_, d1_, d2_⟩ := rtaints_k_cells hce' k (by omega)
        clear hce hce'
        have HN : Hid (∀ w', Below w.heap.size w w' → ¬ ((xs[k]'hlt).key.toList = (ys[k]'(by omega)).key.toList ∧ (xs[k]'hlt).val.toList = (ys[k]'(by omega)).val.toList ∧ (xs[k]'hlt).eff.toList = (ys[k]'(by omega)).eff.toList) → R (.returned (.bool false)) w') := by
          intro w' hb hne
          have := HR.out w' hb
          rwa [show decide (xs = ys) = false by
            simp only [decide_eq_false_iff_not]
            rintro rfl
            exact hne ⟨rfl, rfl, rfl⟩] at this
        have HT : Hid ((xs[k]'hlt).key.toList = (ys[k]'(by omega)).key.toList → (xs[k]'hlt).val.toList = (ys[k]'(by omega)).val.toList → (xs[k]'hlt).eff.toList = (ys[k]'(by omega)).eff.toList → xs.take (k + 1) = ys.take (k + 1)) := by
          intro g0 g1 g2
          rw [take_snoc xs k hlt, take_snoc ys k (by omega), Hin.out]
          congr 2
          have e0 := ba_toList_inj.1 g0
          have e1 := ba_toList_inj.1 g1
          have e2 := ba_toList_inj.1 g2
          cases hxk : xs[k]'hlt
          cases hyk : ys[k]'(by omega)
          rw [hxk, hyk] at e0 e1 e2
          simp at e0 e1 e2
          rw [e0, e1, e2]
        generalize (xs[k]'hlt).key = x0 at *
        generalize (ys[k]'(by omega)).key = y0 at *
        generalize (xs[k]'hlt).val = x1 at *
        generalize (ys[k]'(by omega)).val = y1 at *
        generalize (xs[k]'hlt).eff = x2 at *
        generalize (ys[k]'(by omega)).eff = y2 at *
        by_cases h0 : x0.toList = y0.toList
        · skip
          by_cases h1 : x1.toList = y1.toList
          · skip
            by_cases h2 : x2.toList = y2.toList
            · skip
              go_wp2_with fail
              go_region
              go_wp2_with fail
              go_roundw
              case rel => exact ⟨k + 1, by omega, by go_num, hB.drew, HT.out h0 h1 h2⟩
              case measure => simp [intOf]; omega
            · have Hf := HN.out wr.drew hB.drew (fun h => h2 h.2.2)
              go_wp2_with fail
              go_region
              go_wp2_with fail
              exact Hf
          · have Hf := HN.out wr.drew hB.drew (fun h => h1 h.2.1)
            go_wp2_with fail
            go_region
            go_wp2_with fail
            exact Hf
        · have Hf := HN.out wr.drew hB.drew (fun h => h0 h.1)
          go_wp2_with fail
          go_region
          go_wp2_with fail
          exact Hf
      · have hv2 := HR.out _ hB
        obtain rfl : k = xs.length := by omega
        have he : xs = ys := by
          have := Hin.out
          rwa [List.take_length, List.take_of_length_le (by omega)] at this
        rw [show decide (xs = ys) = true by simpa using he] at hv2
        clear he
        go_wp2_with fail
        exact hv2
  · have hv2 := HR.out _ (Below.refl _ _)
    rw [show decide (xs = ys) = false by
      simp only [decide_eq_false_iff_not]
      rintro rfl
      exact hll rfl] at hv2
    go_enter Tryz.func73, Tryz.ntmps73
    have h3 : ((xs.length : Int) != (ys.length : Int)) = true := by simp; omega
    go_wp2_with fail
    exact hv2
theorem ritems_k_cells {w : World} {ok : Nat → Prop} {b off : Nat} {l : List Itm} (h : ∀ j (hj : j < l.length), ∃ cs, itmK w ok (l[j]'hj) cs ∧ cs.length = 2 ∧ ∀ i u, cs[i]? = some u → w.cell? ⟨b, off + (j * 2 + i), none⟩ = some u) (k : Nat) (hk : k < l.length) :
    w.cell? ⟨b, off + k * 2, none⟩ = some (.string (l[k]'hk).name) ∧ w.cell? ⟨b, off + k * 2 + 1, none⟩ = some (.int .i64 (l[k]'hk).n) := by
  obtain ⟨cs, h1, _, hc⟩ := h k hk
  cases h1
  exact ⟨hc 0 _ rfl, hc 1 _ rfl⟩
set_option maxRecDepth 100000 in
set_option maxHeartbeats 8000000 in
theorem ritems_k (R : Ending → World → Prop) (w : World) (ok : Nat → Prop) (v v' : Value) (xs ys : List Itm) (hok : ∀ k, ok k → k < w.heap.size) (hx : SlK itmK 2 w ok v xs) (hy : SlK itmK 2 w ok v' ys) (hl : xs.length ≤ 1073741824) (hl' : ys.length ≤ 1073741824)
    (hR : ∀ w', Below w.heap.size w w' → R (.returned (.bool (decide (xs = ys)))) w') :
    Calls Tryz.prog 74 #[v, v'] w R := by
  obtain ⟨A, c, rfl, hlc, _⟩ := hx.form
  obtain ⟨A', c', rfl, hlc', _⟩ := hy.form
  have HR := Lib.hid hR
  clear hR
  by_cases hll : xs.length = ys.length
  · go_enter Tryz.func74, Tryz.ntmps74
    go_wp2_with fail
    go_loopw [5] (fun i wr => ∃ k : Nat, k ≤ xs.length ∧ i = .int .i64 k ∧ Below w.heap.size w wr ∧ xs.take k = ys.take k) (fun i _ => xs.length - (intOf i).toNat)
    case atStart => exact ⟨0, Nat.zero_le _, rfl, Below.refl _ _, by simp⟩
    case round =>
      obtain ⟨k, hk, rfl, hB, hin⟩ := hrel
      have Hin := Lib.hid hin
      clear hin
      by_cases hlt : k < xs.length
      · have hx' := hx.below itmOk hB hok
        have hy' := hy.below itmOk hB hok
        obtain ⟨b, off, c2, he, _, _, hbk, hbl, hce⟩ := hx'.addr (by omega)
        simp only [Value.slice.injEq] at he
        obtain ⟨rfl, -, rfl⟩ := he
        obtain ⟨c0_, c1_⟩ := ritems_k_cells hce k hlt
        obtain ⟨b', off', c2', he, _, _, hbk', hbl', hce'⟩ := hy'.addr (by omega)
        simp only [Value.slice.injEq] at he
        obtain ⟨rfl, -, rfl⟩ := he
        obtain ⟨d0_, d1_⟩ := ritems_k_cells hce' k (by omega)
        clear hce hce'
        have HN : Hid (∀ w', Below w.heap.size w w' → ¬ ((xs[k]'hlt).name.toList = (ys[k]'(by omega)).name.toList ∧ (xs[k]'hlt).n = (ys[k]'(by omega)).n) → R (.returned (.bool false)) w') := by
          intro w' hb hne
          have := HR.out w' hb
          rwa [show decide (xs = ys) = false by
            simp only [decide_eq_false_iff_not]
            rintro rfl
            exact hne ⟨rfl, rfl⟩] at this
        have HT : Hid ((xs[k]'hlt).name.toList = (ys[k]'(by omega)).name.toList → (xs[k]'hlt).n = (ys[k]'(by omega)).n → xs.take (k + 1) = ys.take (k + 1)) := by
          intro g0 g1
          rw [take_snoc xs k hlt, take_snoc ys k (by omega), Hin.out]
          congr 2
          have e0 := ba_toList_inj.1 g0
          have e1 := g1
          cases hxk : xs[k]'hlt
          cases hyk : ys[k]'(by omega)
          rw [hxk, hyk] at e0 e1
          simp at e0 e1
          rw [e0, e1]
        generalize (xs[k]'hlt).name = x0 at *
        generalize (ys[k]'(by omega)).name = y0 at *
        generalize (xs[k]'hlt).n = x1 at *
        generalize (ys[k]'(by omega)).n = y1 at *
        by_cases h0 : x0.toList = y0.toList
        · skip
          by_cases h1 : x1 = y1
          · skip
            go_wp2_with fail
            go_region
            go_wp2_with fail
            go_roundw
            case rel => exact ⟨k + 1, by omega, by go_num, hB.drew, HT.out h0 h1⟩
            case measure => simp [intOf]; omega
          · have Hf := HN.out wr.drew hB.drew (fun h => h1 h.2)
            go_wp2_with fail
            go_region
            go_wp2_with fail
            exact Hf
        · have Hf := HN.out wr.drew hB.drew (fun h => h0 h.1)
          go_wp2_with fail
          go_region
          go_wp2_with fail
          exact Hf
      · have hv2 := HR.out _ hB
        obtain rfl : k = xs.length := by omega
        have he : xs = ys := by
          have := Hin.out
          rwa [List.take_length, List.take_of_length_le (by omega)] at this
        rw [show decide (xs = ys) = true by simpa using he] at hv2
        clear he
        go_wp2_with fail
        exact hv2
  · have hv2 := HR.out _ (Below.refl _ _)
    rw [show decide (xs = ys) = false by
      simp only [decide_eq_false_iff_not]
      rintro rfl
      exact hll rfl] at hv2
    go_enter Tryz.func74, Tryz.ntmps74
    have h3 : ((xs.length : Int) != (ys.length : Int)) = true := by simp; omega
    go_wp2_with fail
    exact hv2
theorem rtols_k_cells {w : World} {ok : Nat → Prop} {b off : Nat} {l : List Tol} (h : ∀ j (hj : j < l.length), ∃ cs, tolK w ok (l[j]'hj) cs ∧ cs.length = 4 ∧ ∀ i u, cs[i]? = some u → w.cell? ⟨b, off + (j * 4 + i), none⟩ = some u) (k : Nat) (hk : k < l.length) :
    w.cell? ⟨b, off + k * 4, none⟩ = some (.string (l[k]'hk).key) ∧ w.cell? ⟨b, off + k * 4 + 1, none⟩ = some (.string (l[k]'hk).op) ∧ w.cell? ⟨b, off + k * 4 + 2, none⟩ = some (.string (l[k]'hk).val) ∧ w.cell? ⟨b, off + k * 4 + 3, none⟩ = some (.string (l[k]'hk).eff) := by
  obtain ⟨cs, h1, _, hc⟩ := h k hk
  cases h1
  exact ⟨hc 0 _ rfl, hc 1 _ rfl, hc 2 _ rfl, hc 3 _ rfl⟩
set_option maxRecDepth 100000 in
set_option maxHeartbeats 8000000 in
theorem rtols_k (R : Ending → World → Prop) (w : World) (ok : Nat → Prop) (v v' : Value) (xs ys : List Tol) (hok : ∀ k, ok k → k < w.heap.size) (hx : SlK tolK 4 w ok v xs) (hy : SlK tolK 4 w ok v' ys) (hl : xs.length ≤ 1073741824) (hl' : ys.length ≤ 1073741824)
    (hR : ∀ w', Below w.heap.size w w' → R (.returned (.bool (decide (xs = ys)))) w') :
    Calls Tryz.prog 75 #[v, v'] w R := by
  obtain ⟨A, c, rfl, hlc, _⟩ := hx.form
  obtain ⟨A', c', rfl, hlc', _⟩ := hy.form
  have HR := Lib.hid hR
  clear hR
  by_cases hll : xs.length = ys.length
  · go_enter Tryz.func75, Tryz.ntmps75
    go_wp2_with fail
    go_loopw [5] (fun i wr => ∃ k : Nat, k ≤ xs.length ∧ i = .int .i64 k ∧ Below w.heap.size w wr ∧ xs.take k = ys.take k) (fun i _ => xs.length - (intOf i).toNat)
    case atStart => exact ⟨0, Nat.zero_le _, rfl, Below.refl _ _, by simp⟩
    case round =>
      obtain ⟨k, hk, rfl, hB, hin⟩ := hrel
      have Hin := Lib.hid hin
      clear hin
      by_cases hlt : k < xs.length
      · have hx' := hx.below tolOk hB hok
        have hy' := hy.below tolOk hB hok
        obtain ⟨b, off, c2, he, _, _, hbk, hbl, hce⟩ := hx'.addr (by omega)
        simp only [Value.slice.injEq] at he
        obtain ⟨rfl, -, rfl⟩ := he
        obtain ⟨c0_, c1_, c2_, c3_⟩ := rtols_k_cells hce k hlt
        obtain ⟨b', off', c2', he, _, _, hbk', hbl', hce'⟩ := hy'.addr (by omega)
        simp only [Value.slice.injEq] at he
        obtain ⟨rfl, -, rfl⟩ := he
        obtain ⟨d0_, d1_, d2_, d3_⟩ := rtols_k_cells hce' k (by omega)
        clear hce hce'
        have HN : Hid (∀ w', Below w.heap.size w w' → ¬ ((xs[k]'hlt).key.toList = (ys[k]'(by omega)).key.toList ∧ (xs[k]'hlt).op.toList = (ys[k]'(by omega)).op.toList ∧ (xs[k]'hlt).val.toList = (ys[k]'(by omega)).val.toList ∧ (xs[k]'hlt).eff.toList = (ys[k]'(by omega)).eff.toList) → R (.returned (.bool false)) w') := by
          intro w' hb hne
          have := HR.out w' hb
          rwa [show decide (xs = ys) = false by
            simp only [decide_eq_false_iff_not]
            rintro rfl
            exact hne ⟨rfl, rfl, rfl, rfl⟩] at this
        have HT : Hid ((xs[k]'hlt).key.toList = (ys[k]'(by omega)).key.toList → (xs[k]'hlt).op.toList = (ys[k]'(by omega)).op.toList → (xs[k]'hlt).val.toList = (ys[k]'(by omega)).val.toList → (xs[k]'hlt).eff.toList = (ys[k]'(by omega)).eff.toList → xs.take (k + 1) = ys.take (k + 1)) := by
          intro g0 g1 g2 g3
          rw [take_snoc xs k hlt, take_snoc ys k (by omega), Hin.out]
          congr 2
          have e0 := ba_toList_inj.1 g0
          have e1 := ba_toList_inj.1 g1
          have e2 := ba_toList_inj.1 g2
          have e3 := ba_toList_inj.1 g3
          cases hxk : xs[k]'hlt
          cases hyk : ys[k]'(by omega)
          rw [hxk, hyk] at e0 e1 e2 e3
          simp at e0 e1 e2 e3
          rw [e0, e1, e2, e3]
        generalize (xs[k]'hlt).key = x0 at *
        generalize (ys[k]'(by omega)).key = y0 at *
        generalize (xs[k]'hlt).op = x1 at *
        generalize (ys[k]'(by omega)).op = y1 at *
        generalize (xs[k]'hlt).val = x2 at *
        generalize (ys[k]'(by omega)).val = y2 at *
        generalize (xs[k]'hlt).eff = x3 at *
        generalize (ys[k]'(by omega)).eff = y3 at *
        by_cases h0 : x0.toList = y0.toList
        · skip
          by_cases h1 : x1.toList = y1.toList
          · skip
            by_cases h2 : x2.toList = y2.toList
            · skip
              by_cases h3 : x3.toList = y3.toList
              · skip
                go_wp2_with fail
                go_region
                go_wp2_with fail
                go_roundw
                case rel => exact ⟨k + 1, by omega, by go_num, hB.drew, HT.out h0 h1 h2 h3⟩
                case measure => simp [intOf]; omega
              · have Hf := HN.out wr.drew hB.drew (fun h => h3 h.2.2.2)
                go_wp2_with fail
                go_region
                go_wp2_with fail
                exact Hf
            · have Hf := HN.out wr.drew hB.drew (fun h => h2 h.2.2.1)
              go_wp2_with fail
              go_region
              go_wp2_with fail
              exact Hf
          · have Hf := HN.out wr.drew hB.drew (fun h => h1 h.2.1)
            go_wp2_with fail
            go_region
            go_wp2_with fail
            exact Hf
        · have Hf := HN.out wr.drew hB.drew (fun h => h0 h.1)
          go_wp2_with fail
          go_region
          go_wp2_with fail
          exact Hf
      · have hv2 := HR.out _ hB
        obtain rfl : k = xs.length := by omega
        have he : xs = ys := by
          have := Hin.out
          rwa [List.take_length, List.take_of_length_le (by omega)] at this
        rw [show decide (xs = ys) = true by simpa using he] at hv2
        clear he
        go_wp2_with fail
        exact hv2
  · have hv2 := HR.out _ (Below.refl _ _)
    rw [show decide (xs = ys) = false by
      simp only [decide_eq_false_iff_not]
      rintro rfl
      exact hll rfl] at hv2
    go_enter Tryz.func75, Tryz.ntmps75
    have h3 : ((xs.length : Int) != (ys.length : Int)) = true := by simp; omega
    go_wp2_with fail
    exact hv2
end Go.Proofs.YtdceflgemhcgcaaGreatDoor
