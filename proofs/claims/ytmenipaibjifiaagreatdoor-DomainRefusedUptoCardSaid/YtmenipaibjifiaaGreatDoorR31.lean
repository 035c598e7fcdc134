/-
The reference's look-ups: node, pod, stands, in.
berthref09: withPod. Every two lists of at most 2^30 pods.
-/
import Derived.Test.YtmenipaibjifiaaGreatDoorR30
import Derived.Test.YtmenipaibjifiaaGreatDoorR16
set_option linter.unusedVariables false
set_option linter.unusedSimpArgs false
namespace Go.Proofs.YtmenipaibjifiaaGreatDoor
open Go.RowKit Go.BigFrame

/-- The place of the first that is so, or -1. -/
def idxBy {α : Type} (p : α → Bool) (l : List α) : Int := match l.findIdx? p with | some k => k | none => -1
theorem idxBy_at {α : Type} {p : α → Bool} {l : List α} {k : Nat} (hk : k < l.length) (h : ∀ j (hj : j < l.length), j < k → p (l[j]'hj) = false) (he : p (l[k]'hk) = true) : idxBy p l = k := by
  unfold idxBy
  rw [List.findIdx?_eq_some_iff_getElem.2 ⟨hk, he, fun j hj => by simpa using h j (by omega) hj⟩]
theorem idxBy_none {α : Type} {p : α → Bool} {l : List α} (h : ∀ j (hj : j < l.length), p (l[j]'hj) = false) : idxBy p l = -1 := by
  unfold idxBy
  rw [List.findIdx?_eq_none_iff.2 ?_]
  intro x hx
  obtain ⟨j, hj, rfl⟩ := List.mem_iff_getElem.1 hx
  simpa using h j hj
theorem any_at {α : Type} {p : α → Bool} {l : List α} {k : Nat} (hk : k < l.length) (he : p (l[k]'hk) = true) : l.any p = true := List.any_eq_true.2 ⟨_, List.getElem_mem hk, he⟩
theorem any_none {α : Type} {p : α → Bool} {l : List α} (h : ∀ j (hj : j < l.length), p (l[j]'hj) = false) : l.any p = false := by
  rw [List.any_eq_false]
  intro x hx
  obtain ⟨j, hj, rfl⟩ := List.mem_iff_getElem.1 hx
  simpa using h j hj
theorem rpod_cells {w : World} {ok : Nat → Prop} {b off : Nat} {l : List RPod} (h : ∀ j (hj : j < l.length), ∃ cs, rpodK w ok (l[j]'hj) cs ∧ cs.length = 3 ∧ ∀ i u, cs[i]? = some u → w.cell? ⟨b, off + (j * 3 + i), none⟩ = some u) (k : Nat) (hk : k < l.length) :
    ∃ v, w.cell? ⟨b, off + k * 3, none⟩ = some (.int .i64 (l[k]'hk).slot) ∧ w.cell? ⟨b, off + k * 3 + 1, none⟩ = some (.int .i64 (l[k]'hk).on) ∧ w.cell? ⟨b, off + k * 3 + 2, none⟩ = some v ∧ SlK labK 2 w ok v (l[k]'hk).labels := by
  obtain ⟨cs, ⟨v, rfl, hv⟩, _, hc⟩ := h k hk
  exact ⟨v, hc 0 _ rfl, hc 1 _ rfl, hc 2 _ rfl, hv⟩

set_option maxRecDepth 100000 in
set_option maxHeartbeats 2000000 in
theorem rnode_k (R : Ending → World → Prop) (w : World) (ok : Nat → Prop) (d : RDom) (slot : Int) (cs : List Value) (hok : ∀ k, ok k → k < w.heap.size) (hd : rdomK w ok d cs) (hl : d.nodes.length ≤ 1073741824)
    (hR : ∀ w', Below w.heap.size w w' → R (.returned (.int .i64 (idxBy (fun x : RNode => decide (x.slot = slot)) d.nodes))) w') :
    Calls Tryz.prog 136 #[.agg cs.toArray, .int .i64 slot] w R := by
  obtain ⟨vn, vp, rfl, hn, hp⟩ := hd
  have hx := hn.below rnodeOk (Below.alloc (Below.refl _ _) (Nat.le_refl _) (.cells #[vn, vp] 29)) hok
  have hB : Below w.heap.size w (w.alloc (.cells #[vn, vp] 29)) := Below.alloc (Below.refl _ _) (Nat.le_refl _) _
  have q0 : (w.alloc (.cells #[vn, vp] 29)).cell? ⟨w.heap.size, 0, none⟩ = some vn := cell_new rfl
  have q1 : (w.alloc (.cells #[vn, vp] 29)).cell? ⟨w.heap.size, 1, none⟩ = some vp := cell_new rfl
  have HR := Lib.hid hR
  clear hR
  obtain ⟨A, c, e, hlc, _⟩ := hx.form
  subst e
  go_enter Tryz.func136, Tryz.ntmps136
  go_wp2_with fail
  go_loop [5] (fun i => ∃ k : Nat, k ≤ d.nodes.length ∧ i = .int .i64 k ∧ ∀ j (hj : j < d.nodes.length), j < k → (fun x : RNode => decide (x.slot = slot)) (d.nodes[j]'hj) = false) (fun i => d.nodes.length - (intOf i).toNat)
  case atStart => exact ⟨0, Nat.zero_le _, rfl, fun j hj h => absurd h (Nat.not_lt_zero _)⟩
  case round =>
    obtain ⟨k, hk, rfl, hin⟩ := hrel
    have Hin := Lib.hid hin
    clear hin
    by_cases hkl : k < d.nodes.length
    · obtain ⟨b, off, c', he, _, _, hbk, hbl, hce⟩ := hx.addr (by omega)
      simp only [Value.slice.injEq] at he
      obtain ⟨rfl, -, rfl⟩ := he
      obtain ⟨v1, c0, c1, hv1⟩ := rnode_cells hce k hkl
      clear hce
      by_cases hs : (d.nodes[k]'hkl).slot = slot
      · have hv := idxBy_at (p := (fun x : RNode => decide (x.slot = slot))) hkl Hin.out (by simpa using hs)
        have hv2 := HR.out _ hB
        rw [hv] at hv2
        clear hv
        go_wp2_with fail
        exact hv2
      · have hs2 : ((d.nodes[k]'hkl).slot == slot) = false := by simpa using hs
        have Hs := Lib.hid hs
        clear hs
        go_wp2_with fail
        go_round
        case rel => exact ⟨k + 1, by omega, by go_num, fun j hj h => by
          rcases Nat.lt_or_ge j k with h' | h'
          · exact Hin.out j hj h'
          · obtain rfl : j = k := by omega
            simpa using Hs.out⟩
        case measure => simp [intOf]; omega
    · have hv2 := HR.out _ hB
      have hv := idxBy_none (p := (fun x : RNode => decide (x.slot = slot))) (l := d.nodes) (fun j hj => Hin.out j hj (by omega))
      rw [hv] at hv2
      clear hv
      go_wp2_with fail
      exact hv2

set_option maxRecDepth 100000 in
set_option maxHeartbeats 2000000 in
theorem rpod_k (R : Ending → World → Prop) (w : World) (ok : Nat → Prop) (d : RDom) (slot : Int) (cs : List Value) (hok : ∀ k, ok k → k < w.heap.size) (hd : rdomK w ok d cs) (hl : d.pods.length ≤ 1073741824)
    (hR : ∀ w', Below w.heap.size w w' → R (.returned (.int .i64 (idxBy (fun x : RPod => decide (x.slot = slot)) d.pods))) w') :
    Calls Tryz.prog 137 #[.agg cs.toArray, .int .i64 slot] w R := by
  obtain ⟨vn, vp, rfl, hn, hp⟩ := hd
  have hx := hp.below rpodOk (Below.alloc (Below.refl _ _) (Nat.le_refl _) (.cells #[vn, vp] 29)) hok
  have hB : Below w.heap.size w (w.alloc (.cells #[vn, vp] 29)) := Below.alloc (Below.refl _ _) (Nat.le_refl _) _
  have q0 : (w.alloc (.cells #[vn, vp] 29)).cell? ⟨w.heap.size, 0, none⟩ = some vn := cell_new rfl
  have q1 : (w.alloc (.cells #[vn, vp] 29)).cell? ⟨w.heap.size, 1, none⟩ = some vp := cell_new rfl
  have HR := Lib.hid hR
  clear hR
  obtain ⟨A, c, e, hlc, _⟩ := hx.form
  subst e
  go_enter Tryz.func137, Tryz.ntmps137
  go_wp2_with fail
  go_loop [5] (fun i => ∃ k : Nat, k ≤ d.pods.length ∧ i = .int .i64 k ∧ ∀ j (hj : j < d.pods.length), j < k → (fun x : RPod => decide (x.slot = slot)) (d.pods[j]'hj) = false) (fun i => d.pods.length - (intOf i).toNat)
  case atStart => exact ⟨0, Nat.zero_le _, rfl, fun j hj h => absurd h (Nat.not_lt_zero _)⟩
  case round =>
    obtain ⟨k, hk, rfl, hin⟩ := hrel
    have Hin := Lib.hid hin
    clear hin
    by_cases hkl : k < d.pods.length
    · obtain ⟨b, off, c', he, _, _, hbk, hbl, hce⟩ := hx.addr (by omega)
      simp only [Value.slice.injEq] at he
      obtain ⟨rfl, -, rfl⟩ := he
      obtain ⟨v1, c0, c1, c2, hv1⟩ := rpod_cells hce k hkl
      clear hce
      by_cases hs : (d.pods[k]'hkl).slot = slot
      · have hv := idxBy_at (p := (fun x : RPod => decide (x.slot = slot))) hkl Hin.out (by simpa using hs)
        have hv2 := HR.out _ hB
        rw [hv] at hv2
        clear hv
        go_wp2_with fail
        exact hv2
      · have hs2 : ((d.pods[k]'hkl).slot == slot) = false := by simpa using hs
        have Hs := Lib.hid hs
        clear hs
        go_wp2_with fail
        go_round
        case rel => exact ⟨k + 1, by omega, by go_num, fun j hj h => by
          rcases Nat.lt_or_ge j k with h' | h'
          · exact Hin.out j hj h'
          · obtain rfl : j = k := by omega
            simpa using Hs.out⟩
        case measure => simp [intOf]; omega
    · have hv2 := HR.out _ hB
      have hv := idxBy_none (p := (fun x : RPod => decide (x.slot = slot))) (l := d.pods) (fun j hj => Hin.out j hj (by omega))
      rw [hv] at hv2
      clear hv
      go_wp2_with fail
      exact hv2

set_option maxRecDepth 100000 in
set_option maxHeartbeats 2000000 in
theorem rstands_k (R : Ending → World → Prop) (w : World) (ok : Nat → Prop) (d : RDom) (slot : Int) (cs : List Value) (hok : ∀ k, ok k → k < w.heap.size) (hd : rdomK w ok d cs) (hl : d.pods.length ≤ 1073741824)
    (hR : ∀ w', Below w.heap.size w w' → R (.returned (.bool (d.pods.any (fun x : RPod => decide (x.on = slot))))) w') :
    Calls Tryz.prog 139 #[.agg cs.toArray, .int .i64 slot] w R := by
  obtain ⟨vn, vp, rfl, hn, hp⟩ := hd
  have hx := hp.below rpodOk (Below.alloc (Below.refl _ _) (Nat.le_refl _) (.cells #[vn, vp] 29)) hok
  have hB : Below w.heap.size w (w.alloc (.cells #[vn, vp] 29)) := Below.alloc (Below.refl _ _) (Nat.le_refl _) _
  have q0 : (w.alloc (.cells #[vn, vp] 29)).cell? ⟨w.heap.size, 0, none⟩ = some vn := cell_new rfl
  have q1 : (w.alloc (.cells #[vn, vp] 29)).cell? ⟨w.heap.size, 1, none⟩ = some vp := cell_new rfl
  have HR := Lib.hid hR
  clear hR
  obtain ⟨A, c, e, hlc, _⟩ := hx.form
  subst e
  go_enter Tryz.func139, Tryz.ntmps139
  go_wp2_with fail
  go_loop [5] (fun i => ∃ k : Nat, k ≤ d.pods.length ∧ i = .int .i64 k ∧ ∀ j (hj : j < d.pods.length), j < k → (fun x : RPod => decide (x.on = slot)) (d.pods[j]'hj) = false) (fun i => d.pods.length - (intOf i).toNat)
  case atStart => exact ⟨0, Nat.zero_le _, rfl, fun j hj h => absurd h (Nat.not_lt_zero _)⟩
  case round =>
    obtain ⟨k, hk, rfl, hin⟩ := hrel
    have Hin := Lib.hid hin
    clear hin
    by_cases hkl : k < d.pods.length
    · obtain ⟨b, off, c', he, _, _, hbk, hbl, hce⟩ := hx.addr (by omega)
      simp only [Value.slice.injEq] at he
      obtain ⟨rfl, -, rfl⟩ := he
      obtain ⟨v1, c0, c1, c2, hv1⟩ := rpod_cells hce k hkl
      clear hce
      by_cases hs : (d.pods[k]'hkl).on = slot
      · have hv := any_at (p := (fun x : RPod => decide (x.on = slot))) hkl (by simpa using hs)
        have hv2 := HR.out _ hB
        rw [hv] at hv2
        clear hv
        go_wp2_with fail
        exact hv2
      · have hs2 : ((d.pods[k]'hkl).on == slot) = false := by simpa using hs
        have Hs := Lib.hid hs
        clear hs
        go_wp2_with fail
        go_round
        case rel => exact ⟨k + 1, by omega, by go_num, fun j hj h => by
          rcases Nat.lt_or_ge j k with h' | h'
          · exact Hin.out j hj h'
          · obtain rfl : j = k := by omega
            simpa using Hs.out⟩
        case measure => simp [intOf]; omega
    · have hv2 := HR.out _ hB
      have hv := any_none (p := (fun x : RPod => decide (x.on = slot))) (l := d.pods) (fun j hj => Hin.out j hj (by omega))
      rw [hv] at hv2
      clear hv
      go_wp2_with fail
      exact hv2

set_option maxRecDepth 100000 in
set_option maxHeartbeats 2000000 in
theorem rin_k (R : Ending → World → Prop) (w : World) (ok : Nat → Prop) (l : List Int) (slot : Int) (v : Value) (hok : ∀ k, ok k → k < w.heap.size) (hx : SlK intsK 1 w ok v l) (hl : l.length ≤ 1073741824)
    (hR : ∀ w', Below w.heap.size w w' → R (.returned (.bool (l.any (fun x : Int => decide (x = slot))))) w') :
    Calls Tryz.prog 149 #[v, .int .i64 slot] w R := by
  have hB : Below w.heap.size w w := Below.refl _ _
  have HR := Lib.hid hR
  clear hR
  obtain ⟨A, c, e, hlc, _⟩ := hx.form
  subst e
  go_enter Tryz.func149, Tryz.ntmps149
  go_wp2_with fail
  go_loop [5] (fun i => ∃ k : Nat, k ≤ l.length ∧ i = .int .i64 k ∧ ∀ j (hj : j < l.length), j < k → (fun x : Int => decide (x = slot)) (l[j]'hj) = false) (fun i => l.length - (intOf i).toNat)
  case atStart => exact ⟨0, Nat.zero_le _, rfl, fun j hj h => absurd h (Nat.not_lt_zero _)⟩
  case round =>
    obtain ⟨k, hk, rfl, hin⟩ := hrel
    have Hin := Lib.hid hin
    clear hin
    by_cases hkl : k < l.length
    · obtain ⟨b, off, c', he, _, _, hbk, hbl, hce⟩ := hx.addr (by omega)
      simp only [Value.slice.injEq] at he
      obtain ⟨rfl, -, rfl⟩ := he
      obtain ⟨cs1, hc1, _, hc2⟩ := hce k hkl
      cases hc1
      have c0 : w.cell? ⟨b, off + k, none⟩ = some (.int .i64 (l[k]'hkl)) := by simpa using hc2 0 _ rfl
      clear hce
      by_cases hs : (l[k]'hkl) = slot
      · have hv := any_at (p := (fun x : Int => decide (x = slot))) hkl (by simpa using hs)
        have hv2 := HR.out _ hB
        rw [hv] at hv2
        clear hv
        go_wp2_with fail
        exact hv2
      · have hs2 : ((l[k]'hkl) == slot) = false := by simpa using hs
        have Hs := Lib.hid hs
        clear hs
        go_wp2_with fail
        go_round
        case rel => exact ⟨k + 1, by omega, by go_num, fun j hj h => by
          rcases Nat.lt_or_ge j k with h' | h'
          · exact Hin.out j hj h'
          · obtain rfl : j = k := by omega
            simpa using Hs.out⟩
        case measure => simp [intOf]; omega
    · have hv2 := HR.out _ hB
      have hv := any_none (p := (fun x : Int => decide (x = slot))) (l := l) (fun j hj => Hin.out j hj (by omega))
      rw [hv] at hv2
      clear hv
      go_wp2_with fail
      exact hv2
end Go.Proofs.YtmenipaibjifiaaGreatDoor

namespace Go.Proofs.YtmenipaibjifiaaGreatDoor
open Go.RowKit

def withPod (l : List RPod) (slot : Int) (n : List RPod) : List RPod :=
  l.takeWhile (fun x => decide (x.slot < slot)) ++ n ++ (l.dropWhile (fun x => decide (x.slot < slot))).filter (fun x => !decide (x.slot = slot))

theorem infoRPod : (Tryz.prog.info? 132).map (fun i => (i.zero, i.size, i.bytes)) = some (some (.agg #[.int .i64 0, .int .i64 0, .slice none 0 0]), 3, 40) := by kernel_rfl

set_option maxRecDepth 100000 in
set_option maxHeartbeats 2000000 in
theorem withPod_k (R : Ending → World → Prop) (w : World) (ok : Nat → Prop) (vl vn : Value) (l n : List RPod) (slot : Int) (hok : ∀ k, ok k → k < w.heap.size)
    (hl : SlK rpodK 3 w ok vl l) (hn : SlK rpodK 3 w ok vn n) (hll : l.length ≤ 1073741824) (hnl : n.length ≤ 1073741824)
    (hR : ∀ v' w', Below w.heap.size w w' → SlK rpodK 3 w' (fun k => ok k ∨ w.heap.size ≤ k) v' (withPod l slot n) → R (.returned v') w') :
    Calls Tryz.prog 53 #[vl, .int .i64 slot, vn] w R := by
  obtain ⟨Al, cl, rfl, hlc, _⟩ := hl.form
  obtain ⟨An, cn, rfl, hnc, _⟩ := hn.form
  go_enter Tryz.func53, Tryz.ntmps53
  go_upto_block 0 with fail
  go_cut [7, 8] (fun v i wr => ∃ k : Nat, k ≤ l.length ∧ i = .int .i64 k ∧ Below w.heap.size w wr ∧ OwnK rpodK 3 132 wr w.heap.size ok v (l.take k) ∧ l.takeWhile (fun x => decide (x.slot < slot)) = l.take k ∧ l.dropWhile (fun x => decide (x.slot < slot)) = l.drop k)
  case first =>
    go_wp2
    go_loopw [7, 8] (fun v i wr => ∃ k : Nat, k ≤ l.length ∧ i = .int .i64 k ∧ Below w.heap.size w wr ∧ OwnK rpodK 3 132 wr w.heap.size ok v (l.take k) ∧ (∀ j (hj : j < l.length), j < k → (l[j]'hj).slot < slot)) (fun _ i _ => l.length - (intOf i).toNat)
    case atStart => exact ⟨0, Nat.zero_le _, rfl, Below.refl _ _, .nil hok, fun j hj h => absurd h (Nat.not_lt_zero _)⟩
    case round =>
      obtain ⟨k, hk, rfl, hB, hO, hlt⟩ := hrel
      have Hlt := Lib.hid hlt
      clear hlt
      have hl' := hl.below rpodOk hB hok
      by_cases hkl : k < l.length
      · obtain ⟨b, off, c, he, _, _, hbk, _, hce⟩ := hl'.addr (by omega)
        simp only [Value.slice.injEq] at he
        obtain ⟨rfl, -, rfl⟩ := he
        obtain ⟨v1, c0, c1, c2, hv1⟩ := rpod_cells hce k hkl
        clear hce
        by_cases hs : (l[k]'hkl).slot < slot
        · go_wp2_with (at_builtin; refine append_k rpodOk rfl _ _ 27 132 (.agg #[.int .i64 0, .int .i64 0, .slice none 0 0]) 40 w.heap.size ok rfl Tryz.underlying27 infoRPod rfl (by decide) (by decide) u7 (l.take k) (l[k]'hkl) #[.int .i64 (l[k]'hkl).slot, .int .i64 (l[k]'hkl).on, v1] rfl rfl ?c1 hO ?c2 hB.size ?c3 ?_)
          case c1 => simp [Value.oneCell']; exact hv1.one
          case c2 => exact ⟨v1, rfl, hv1⟩
          case c3 => simp; omega
          intro v2 w2 hO2 hg2 _
          have hB2 := hB.grown hg2 hB.size (fun k h => (hO.own k h).1)
          go_wp2
          go_roundw
          case rel => exact ⟨k + 1, by omega, by go_num, hB2, by rw [take_snoc l k hkl]; simpa using hO2, fun j hj h => by
            rcases Nat.lt_or_ge j k with h' | h'
            · exact Hlt.out j hj h'
            · obtain rfl : j = k := by omega
              exact hs⟩
          case measure => simp [intOf]; omega
        · go_wp2
          go_meet
          exact ⟨k, hk, rfl, hB, hO, while_split (p := fun x : RPod => decide (x.slot < slot)) hk (fun j hj h => by simpa using Hlt.out j hj h) (fun h => by simpa using hs)⟩
      · go_wp2
        go_meet
        exact ⟨k, hk, rfl, hB, hO, while_split (p := fun x : RPod => decide (x.slot < slot)) hk (fun j hj h => by simpa using Hlt.out j hj h) (fun h => absurd h hkl)⟩
  case rest =>
    obtain ⟨p, hp, rfl, hB0, hO0, htw⟩ := hcut
    have HW := Lib.hid htw
    clear htw
    go_upto_block 2 with fail
    go_cut [7, 9] (fun v _ wr => Below w.heap.size w wr ∧ OwnK rpodK 3 132 wr w.heap.size ok v (l.take p ++ n))
    case first =>
      go_wp2
      go_loopw [7, 9] (fun v i wr => ∃ k : Nat, k ≤ n.length ∧ i = .int .i64 k ∧ Below w.heap.size w wr ∧ OwnK rpodK 3 132 wr w.heap.size ok v (l.take p ++ n.take k)) (fun _ i _ => n.length - (intOf i).toNat)
      case atStart => exact ⟨0, Nat.zero_le _, rfl, hB0, by simpa using hO0⟩
      case round =>
        obtain ⟨k, hk, rfl, hB, hO⟩ := hrel
        have hn' := hn.below rpodOk hB hok
        by_cases hkl : k < n.length
        · obtain ⟨b, off, c, he, _, _, hbk, _, hce⟩ := hn'.addr (by omega)
          simp only [Value.slice.injEq] at he
          obtain ⟨rfl, -, rfl⟩ := he
          obtain ⟨v1, c0, c1, c2, hv1⟩ := rpod_cells hce k hkl
          clear hce
          go_wp2_with (at_builtin; refine append_k rpodOk rfl _ _ 27 132 (.agg #[.int .i64 0, .int .i64 0, .slice none 0 0]) 40 w.heap.size ok rfl Tryz.underlying27 infoRPod rfl (by decide) (by decide) u7 (l.take p ++ n.take k) (n[k]'hkl) #[.int .i64 (n[k]'hkl).slot, .int .i64 (n[k]'hkl).on, v1] rfl rfl ?c1 hO ?c2 hB.size ?c3 ?_)
          case c1 => simp [Value.oneCell']; exact hv1.one
          case c2 => exact ⟨v1, rfl, hv1⟩
          case c3 => simp; omega
          intro v2 w2 hO2 hg2 _
          have hB2 := hB.grown hg2 hB.size (fun k h => (hO.own k h).1)
          go_wp2
          go_roundw
          case rel => exact ⟨k + 1, by omega, by go_num, hB2, by rw [take_snoc n k hkl, ← List.append_assoc]; simpa using hO2⟩
          case measure => simp [intOf]; omega
        · obtain rfl : k = n.length := by omega
          go_wp2
          go_meet
          exact ⟨hB, by simpa using hO⟩
    case rest =>
      obtain ⟨hB1, hO1⟩ := hcut
      go_wp2
      go_loopw [7, 8] (fun v i wr => ∃ k : Nat, k ≤ l.length ∧ p ≤ k ∧ i = .int .i64 k ∧ Below w.heap.size w wr ∧ OwnK rpodK 3 132 wr w.heap.size ok v (l.take p ++ n ++ ((l.drop p).take (k - p)).filter (fun x => !decide (x.slot = slot)))) (fun _ i _ => l.length - (intOf i).toNat)
      case atStart => exact ⟨p, hp, Nat.le_refl _, rfl, hB1, by simpa using hO1⟩
      case round =>
        obtain ⟨k, hk, hpk, rfl, hB, hO⟩ := hrel
        have hl' := hl.below rpodOk hB hok
        by_cases hkl : k < l.length
        · obtain ⟨b, off, c, he, _, _, hbk, _, hce⟩ := hl'.addr (by omega)
          simp only [Value.slice.injEq] at he
          obtain ⟨rfl, -, rfl⟩ := he
          obtain ⟨v1, c0, c1, c2, hv1⟩ := rpod_cells hce k hkl
          clear hce
          have HS : Hid ((l.drop p).take (k + 1 - p) = (l.drop p).take (k - p) ++ [l[k]'hkl]) := by
            show _ = _
            rw [show k + 1 - p = (k - p) + 1 by omega, take_snoc (l.drop p) (k - p) (by simp; omega)]
            simp [show p + (k - p) = k by omega]
          by_cases hs : (l[k]'hkl).slot = slot
          · have hs2 : ((l[k]'hkl).slot != slot) = false := by simpa using hs
            have Hs := Lib.hid hs
            clear hs
            go_wp2
            go_roundw
            case rel => exact ⟨k + 1, by omega, by omega, by go_num, hB, by rw [HS.out, List.filter_append]; simpa [Hs.out] using hO⟩
            case measure => simp [intOf]; omega
          · have hs2 : ((l[k]'hkl).slot != slot) = true := by simpa using hs
            have Hs := Lib.hid hs
            clear hs
            go_wp2_with (at_builtin; refine append_k rpodOk rfl _ _ 27 132 (.agg #[.int .i64 0, .int .i64 0, .slice none 0 0]) 40 w.heap.size ok rfl Tryz.underlying27 infoRPod rfl (by decide) (by decide) u7 (l.take p ++ n ++ ((l.drop p).take (k - p)).filter (fun x => !decide (x.slot = slot))) (l[k]'hkl) #[.int .i64 (l[k]'hkl).slot, .int .i64 (l[k]'hkl).on, v1] rfl rfl ?c1 hO ?c2 hB.size ?c3 ?_)
            case c1 => simp [Value.oneCell']; exact hv1.one
            case c2 => exact ⟨v1, rfl, hv1⟩
            case c3 =>
              have := List.length_filter_le (fun x : RPod => !decide (x.slot = slot)) ((l.drop p).take (k - p))
              simp at this ⊢; omega
            intro v2 w2 hO2 hg2 _
            have hB2 := hB.grown hg2 hB.size (fun k h => (hO.own k h).1)
            go_wp2
            go_roundw
            case rel => exact ⟨k + 1, by omega, by omega, by go_num, hB2, by rw [HS.out, List.filter_append]; simpa [Hs.out] using hO2⟩
            case measure => simp [intOf]; omega
        · obtain rfl : k = l.length := by omega
          go_wp2
          refine hR _ _ hB ?_
          have := hO.slk rpodOk
          rw [show (l.drop p).take (l.length - p) = l.drop p from List.take_of_length_le (by simp)] at this
          unfold withPod
          rw [HW.out.1, HW.out.2]
          exact SlK.mono rpodOk this (fun k hk => hk.elim .inl (fun h => .inr (hO.own k h).1))
end Go.Proofs.YtmenipaibjifiaaGreatDoor
