/-
  berthref09: withNode. Every two lists of at most 2^32 nodes.
-/
import Derived.Test.YtmenipaibjifiaaGreatDoorProg
import Derived.Test.YtmenipaibjifiaaGreatDoorC03
import Derived.KernelRfl
import Derived.Deep.DeepCutAuto
import Derived.Deep.CutBlock
set_option linter.unusedVariables false
set_option linter.unusedSimpArgs false
namespace Go.Proofs.YtmenipaibjifiaaGreatDoor
open Go.RowKit

def withNode (l : List RNode) (slot : Int) (n : List RNode) : List RNode :=
  l.takeWhile (fun x => decide (x.slot < slot)) ++ n ++ (l.dropWhile (fun x => decide (x.slot < slot))).filter (fun x => !decide (x.slot = slot))

theorem infoRNode : (Tryz.prog.info? 129).map (fun i => (i.zero, i.size, i.bytes)) = some (some (.agg #[.int .i64 0, .slice none 0 0]), 2, 32) := by kernel_rfl

theorem rnode_cells {w : World} {ok : Nat → Prop} {b off : Nat} {l : List RNode} (h : ∀ j (hj : j < l.length), ∃ cs, rnodeK w ok (l[j]'hj) cs ∧ cs.length = 2 ∧ ∀ i u, cs[i]? = some u → w.cell? ⟨b, off + (j * 2 + i), none⟩ = some u) (k : Nat) (hk : k < l.length) :
    ∃ v, w.cell? ⟨b, off + k * 2, none⟩ = some (.int .i64 (l[k]'hk).slot) ∧ w.cell? ⟨b, off + k * 2 + 1, none⟩ = some v ∧ SlK labK 2 w ok v (l[k]'hk).labels := by
  obtain ⟨cs, ⟨v, rfl, hv⟩, _, hc⟩ := h k hk
  exact ⟨v, hc 0 _ rfl, hc 1 _ rfl, hv⟩

theorem while_split {α : Type} {p : α → Bool} {l : List α} {k : Nat} (hk : k ≤ l.length) (h1 : ∀ j (hj : j < l.length), j < k → p (l[j]'hj) = true) (h2 : ∀ (h : k < l.length), p (l[k]'h) = false) :
    l.takeWhile p = l.take k ∧ l.dropWhile p = l.drop k := by
  induction l generalizing k with
  | nil => simp
  | cons x r ih =>
    cases k with
    | zero =>
      have := h2 (by simp)
      simp at this
      simp [this]
    | succ k =>
      have hx := h1 0 (by simp) (by omega)
      simp at hx
      have := ih (k := k) (by simpa using hk) (fun j hj h => h1 (j + 1) (by simp; omega) (by omega)) (fun h => h2 (by simp; omega))
      simp [hx, this.1, this.2]
theorem take_snoc {α : Type} (l : List α) (k : Nat) (h : k < l.length) : l.take (k + 1) = l.take k ++ [l[k]'h] := by
  rw [List.take_succ_eq_append_getElem h]

set_option maxRecDepth 100000 in
set_option maxHeartbeats 2000000 in
theorem withNode_k (R : Ending → World → Prop) (w : World) (ok : Nat → Prop) (vl vn : Value) (l n : List RNode) (slot : Int) (hok : ∀ k, ok k → k < w.heap.size)
    (hl : SlK rnodeK 2 w ok vl l) (hn : SlK rnodeK 2 w ok vn n) (hll : l.length ≤ 1073741824) (hnl : n.length ≤ 1073741824)
    (hR : ∀ v' w', Below w.heap.size w w' → SlK rnodeK 2 w' (fun k => ok k ∨ w.heap.size ≤ k) v' (withNode l slot n) → R (.returned v') w') :
    Calls Tryz.prog 52 #[vl, .int .i64 slot, vn] w R := by
  obtain ⟨Al, cl, rfl, hlc, _⟩ := hl.form
  obtain ⟨An, cn, rfl, hnc, _⟩ := hn.form
  go_enter Tryz.func52, Tryz.ntmps52
  go_upto_block 0 with fail
  go_cut [7, 8] (fun v i wr => ∃ k : Nat, k ≤ l.length ∧ i = .int .i64 k ∧ Below w.heap.size w wr ∧ OwnK rnodeK 2 129 wr w.heap.size ok v (l.take k) ∧ l.takeWhile (fun x => decide (x.slot < slot)) = l.take k ∧ l.dropWhile (fun x => decide (x.slot < slot)) = l.drop k)
  case first =>
    go_wp2
    go_loopw [7, 8] (fun v i wr => ∃ k : Nat, k ≤ l.length ∧ i = .int .i64 k ∧ Below w.heap.size w wr ∧ OwnK rnodeK 2 129 wr w.heap.size ok v (l.take k) ∧ (∀ j (hj : j < l.length), j < k → (l[j]'hj).slot < slot)) (fun _ i _ => l.length - (intOf i).toNat)
    case atStart => exact ⟨0, Nat.zero_le _, rfl, Below.refl _ _, .nil hok, fun j hj h => absurd h (Nat.not_lt_zero _)⟩
    case round =>
      obtain ⟨k, hk, rfl, hB, hO, hlt⟩ := hrel
      have Hlt := Lib.hid hlt
      clear hlt
      have hl' := hl.below rnodeOk hB hok
      by_cases hkl : k < l.length
      · obtain ⟨b, off, c, he, _, _, hbk, _, hce⟩ := hl'.addr (by omega)
        simp only [Value.slice.injEq] at he
        obtain ⟨rfl, -, rfl⟩ := he
        obtain ⟨v1, c0, c1, hv1⟩ := rnode_cells hce k hkl
        clear hce
        by_cases hs : (l[k]'hkl).slot < slot
        · go_wp2_with (at_builtin; refine append_k rnodeOk rfl _ _ 26 129 (.agg #[.int .i64 0, .slice none 0 0]) 32 w.heap.size ok rfl Tryz.underlying26 infoRNode rfl (by decide) (by decide) u7 (l.take k) (l[k]'hkl) #[.int .i64 (l[k]'hkl).slot, v1] rfl rfl ?c1 hO ?c2 hB.size ?c3 ?_)
          case c1 => simp [Value.oneCell']; exact hv1.one
          case c2 => exact ⟨v1, rfl, hv1⟩
          case c3 => simp; omega
          intro v2 w2 hO2 hg2 _
          have hB2 := hB.grown hg2 hB.size (fun k h => (hO.own k h).1)
          go_wp2
          go_roundw
          case rel => exact ⟨k + 1, by omega, by go_num, hB2, by rw [take_snoc l k hkl]; simpa using hO2, fun j hj h => by
            rcases Nat.lt_or_ge j k with h' | h'
            · exact Hlt.out j hj h'
            · obtain rfl : j = k := by omega
              exact hs⟩
          case measure => simp [intOf]; omega
        · go_wp2
          go_meet
          exact ⟨k, hk, rfl, hB, hO, while_split (p := fun x : RNode => decide (x.slot < slot)) hk (fun j hj h => by simpa using Hlt.out j hj h) (fun h => by simpa using hs)⟩
      · go_wp2
        go_meet
        exact ⟨k, hk, rfl, hB, hO, while_split (p := fun x : RNode => decide (x.slot < slot)) hk (fun j hj h => by simpa using Hlt.out j hj h) (fun h => absurd h hkl)⟩
  case rest =>
    obtain ⟨p, hp, rfl, hB0, hO0, htw⟩ := hcut
    have HW := Lib.hid htw
    clear htw
    go_upto_block 2 with fail
    go_cut [7, 9] (fun v _ wr => Below w.heap.size w wr ∧ OwnK rnodeK 2 129 wr w.heap.size ok v (l.take p ++ n))
    case first =>
      go_wp2
      go_loopw [7, 9] (fun v i wr => ∃ k : Nat, k ≤ n.length ∧ i = .int .i64 k ∧ Below w.heap.size w wr ∧ OwnK rnodeK 2 129 wr w.heap.size ok v (l.take p ++ n.take k)) (fun _ i _ => n.length - (intOf i).toNat)
      case atStart => exact ⟨0, Nat.zero_le _, rfl, hB0, by simpa using hO0⟩
      case round =>
        obtain ⟨k, hk, rfl, hB, hO⟩ := hrel
        have hn' := hn.below rnodeOk hB hok
        by_cases hkl : k < n.length
        · obtain ⟨b, off, c, he, _, _, hbk, _, hce⟩ := hn'.addr (by omega)
          simp only [Value.slice.injEq] at he
          obtain ⟨rfl, -, rfl⟩ := he
          obtain ⟨v1, c0, c1, hv1⟩ := rnode_cells hce k hkl
          clear hce
          go_wp2_with (at_builtin; refine append_k rnodeOk rfl _ _ 26 129 (.agg #[.int .i64 0, .slice none 0 0]) 32 w.heap.size ok rfl Tryz.underlying26 infoRNode rfl (by decide) (by decide) u7 (l.take p ++ n.take k) (n[k]'hkl) #[.int .i64 (n[k]'hkl).slot, v1] rfl rfl ?c1 hO ?c2 hB.size ?c3 ?_)
          case c1 => simp [Value.oneCell']; exact hv1.one
          case c2 => exact ⟨v1, rfl, hv1⟩
          case c3 => simp; omega
          intro v2 w2 hO2 hg2 _
          have hB2 := hB.grown hg2 hB.size (fun k h => (hO.own k h).1)
          go_wp2
          go_roundw
          case rel => exact ⟨k + 1, by omega, by go_num, hB2, by rw [take_snoc n k hkl, ← List.append_assoc]; simpa using hO2⟩
          case measure => simp [intOf]; omega
        · obtain rfl : k = n.length := by omega
          go_wp2
          go_meet
          exact ⟨hB, by simpa using hO⟩
    case rest =>
      obtain ⟨hB1, hO1⟩ := hcut
      go_wp2
      go_loopw [7, 8] (fun v i wr => ∃ k : Nat, k ≤ l.length ∧ p ≤ k ∧ i = .int .i64 k ∧ Below w.heap.size w wr ∧ OwnK rnodeK 2 129 wr w.heap.size ok v (l.take p ++ n ++ ((l.drop p).take (k - p)).filter (fun x => !decide (x.slot = slot)))) (fun _ i _ => l.length - (intOf i).toNat)
      case atStart => exact ⟨p, hp, Nat.le_refl _, rfl, hB1, by simpa using hO1⟩
      case round =>
        obtain ⟨k, hk, hpk, rfl, hB, hO⟩ := hrel
        have hl' := hl.below rnodeOk hB hok
        by_cases hkl : k < l.length
        · obtain ⟨b, off, c, he, _, _, hbk, _, hce⟩ := hl'.addr (by omega)
          simp only [Value.slice.injEq] at he
          obtain ⟨rfl, -, rfl⟩ := he
          obtain ⟨v1, c0, c1, hv1⟩ := rnode_cells hce k hkl
          clear hce
          have HS : Hid ((l.drop p).take (k + 1 - p) = (l.drop p).take (k - p) ++ [l[k]'hkl]) := by
            show _ = _
            rw [show k + 1 - p = (k - p) + 1 by omega, take_snoc (l.drop p) (k - p) (by simp; omega)]
            simp [show p + (k - p) = k by omega]
          by_cases hs : (l[k]'hkl).slot = slot
          · have hs2 : ((l[k]'hkl).slot != slot) = false := by simpa using hs
            have Hs := Lib.hid hs
            clear hs
            go_wp2
            go_roundw
            case rel => exact ⟨k + 1, by omega, by omega, by go_num, hB, by rw [HS.out, List.filter_append]; simpa [Hs.out] using hO⟩
            case measure => simp [intOf]; omega
          · have hs2 : ((l[k]'hkl).slot != slot) = true := by simpa using hs
            have Hs := Lib.hid hs
            clear hs
            go_wp2_with (at_builtin; refine append_k rnodeOk rfl _ _ 26 129 (.agg #[.int .i64 0, .slice none 0 0]) 32 w.heap.size ok rfl Tryz.underlying26 infoRNode rfl (by decide) (by decide) u7 (l.take p ++ n ++ ((l.drop p).take (k - p)).filter (fun x => !decide (x.slot = slot))) (l[k]'hkl) #[.int .i64 (l[k]'hkl).slot, v1] rfl rfl ?c1 hO ?c2 hB.size ?c3 ?_)
            case c1 => simp [Value.oneCell']; exact hv1.one
            case c2 => exact ⟨v1, rfl, hv1⟩
            case c3 =>
              have := List.length_filter_le (fun x : RNode => !decide (x.slot = slot)) ((l.drop p).take (k - p))
              simp at this ⊢; omega
            intro v2 w2 hO2 hg2 _
            have hB2 := hB.grown hg2 hB.size (fun k h => (hO.own k h).1)
            go_wp2
            go_roundw
            case rel => exact ⟨k + 1, by omega, by omega, by go_num, hB2, by rw [HS.out, List.filter_append]; simpa [Hs.out] using hO2⟩
            case measure => simp [intOf]; omega
        · obtain rfl : k = l.length := by omega
          go_wp2
          refine hR _ _ hB ?_
          have := hO.slk rnodeOk
          rw [show (l.drop p).take (l.length - p) = l.drop p from List.take_of_length_le (by simp)] at this
          unfold withNode
          rw [HW.out.1, HW.out.2]
          exact SlK.mono rnodeOk this (fun k hk => hk.elim .inl (fun h => .inr (hO.own k h).1))
end Go.Proofs.YtmenipaibjifiaaGreatDoor
