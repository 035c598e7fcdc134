/-
domain: valuesOf, Keys: a map's keys, sorted.
berthref09: put.
Lists that rise: a sorted list of keys is the list that put makes; slots. Plain Lean; no program.
berthref09: Of, Nodes, Pods, Stands.
domain: tally.
-/
import Derived.Test.YtmenipaibjifiaaGreatDoorR39
import Derived.Test.YtmenipaibjifiaaGreatDoorR22
import Derived.Maps.Own
import Derived.Sort.KeysCollected
import Derived.Test.YtmenipaibjifiaaGreatDoorR31
import Derived.Test.YtmenipaibjifiaaGreatDoorR25
import Derived.Sort.Walk0
import Derived.Deep.RegionHeld3
set_option linter.unusedVariables false
set_option linter.unusedSimpArgs false
namespace Go.Proofs.YtmenipaibjifiaaGreatDoor
open Go.RowKit Go.BigFrame

/-- The keys, sorted. -/
def sortedK (ks : List ByteArray) : List ByteArray := ((ks.map (·.data.toList)).mergeSort (fun x y => decide (x ≤ y))).map (fun l => ⟨l.toArray⟩)
abbrev RR : Value → Option (DataW Unit × List MemPlace) := fun _ => some (.nil, [])
def keyBytes' : Value → List UInt8
  | .string s => s.data.toList
  | _ => []
theorem ownsMap_of {w : World} {b : Nat} {m : List (ByteArray × Value)} (h : MapAt Value.string w b m) (hk : ∀ p ∈ m, p.1.size ≤ maxLen) (hl : m.length ≤ maxLen) :
    ∃ D : DataW Unit, w.ownsMap Tryz.prog 9 RR b m.length D ∧ (strKeys D).Perm (m.map (fun p => p.1.data.toList)) ∧ Maps.size D = m.length := by
  obtain ⟨es, clock, hb, hm, hn, hs, hc⟩ := h
  have hlen : es.size = m.length := by have := congrArg List.length hm; simpa using this
  have hkeys : es.toList.map (·.key) = m.map (fun p => Value.string p.1) := by
    have := congrArg (List.map Prod.fst) hm
    simp only [List.map_map] at this
    exact this
  have hrd : ∀ x ∈ es.toList, ∃ s : ByteArray, x.key = .string s ∧ s.size ≤ maxLen := by
    intro x hx
    have : x.key ∈ m.map (fun p => Value.string p.1) := by rw [← hkeys]; exact List.mem_map_of_mem hx
    obtain ⟨p, hp, e⟩ := List.mem_map.1 this
    exact ⟨p.1, e.symm, hk p hp⟩
  have hko : ∀ s : ByteArray, s.size ≤ maxLen → keyOf Tryz.prog 9 (.string s) = some (.string s.data.toList) := by
    intro s hs
    simp [keyOf, Tryz.underlying9, mapKey, hs]
  refine ⟨_, ⟨es, clock, hb, ⟨by omega, ⟨hc, hs, ?_⟩, ?_⟩, by omega, rfl⟩, ?_, ?_⟩
  · rw [hkeys]
    have : (m.map (fun p => Value.string p.1)) = (akeys m).map Value.string := by simp [akeys, List.map_map, Function.comp]
    rw [this]
    exact List.pairwise_map.2 (hn.imp (fun h e => h (by injection e)))
  · intro x hx
    obtain ⟨s, e, hs⟩ := hrd x hx
    exact ⟨_, by unfold WideElems.rd; rw [e, hko s hs]; rfl⟩
  · have e1 : ((es.toList.map (WideElems.rg Tryz.prog 9 RR)).map (fun p => strOf p.1)) = (es.toList.map (·.key)).map keyBytes' := by
      rw [List.map_map, List.map_map]
      apply List.map_congr_left
      intro x hx
      obtain ⟨s, e, hs⟩ := hrd x hx
      simp [WideElems.rg, WideElems.rd, e, hko s hs, strOf, keyBytes']
    have e2 : (es.toList.map (·.key)).map keyBytes' = m.map (fun p => p.1.data.toList) := by
      rw [hkeys, List.map_map]; rfl
    rw [← e2, ← e1]
    exact (WideShapes.sorted_perm _).map _
  · show List.length _ = _
    rw [length_sorted, List.length_map, Array.length_toList, hlen]
def toBA (l : List UInt8) : ByteArray := ⟨l.toArray⟩
theorem flat_single : ∀ l : List (List UInt8), (l.map (fun x => [encStr x])).flatten = l.map encStr
  | [] => rfl
  | a :: r => by simp [flat_single r]
theorem row_sl {w : World} {B : Nat} {v : Value} {l : List (List UInt8)} (h : w.ownsRow B 9 1 v l.length (l.map encStr)) : SlK strsK 1 w (fun k => B ≤ k) v (l.map toBA) := by
  have hO : OwnK strsK 1 9 w B Non v (l.map toBA) := by
    refine ⟨fun _ h => h.elim, l.map (fun x => [encStr x]), ?_, by simp, fun j x cs hx hc => ?_⟩
    · rw [flat_single, List.length_map]; exact h
    · rw [List.getElem?_map] at hx hc
      obtain ⟨a, ha, rfl⟩ := Option.map_eq_some_iff.1 hx
      rw [ha] at hc
      cases hc
      rfl
  exact SlK.mono strOk (hO.slk strOk) (fun k hk => hk.elim (fun h => h.elim) (fun h => (hO.own k h).1))
theorem sortedK_eq {ss : List (List UInt8)} {ks : List ByteArray} (h : ss.Perm (ks.map (·.data.toList))) : (ss.mergeSort (fun x y => decide (x ≤ y))).map toBA = sortedK ks := by
  unfold sortedK
  rw [mergeSort_of_perm h]
  rfl

set_option maxRecDepth 100000 in
set_option maxHeartbeats 4000000 in
/-- The keys of the map behind a key, sorted. -/
theorem valuesOf_d (R : Ending → World → Prop) (w : World) (h : Hdr) (own : Own') (S : St) (key : ByteArray) (D : DomAt w h own S) (hsz : ∀ v, (innerG S key v).isSome = true → v.size ≤ 1048576)
    (hnum : ∀ ks : List ByteArray, ks.Nodup → (∀ k, k ∈ ks → (innerG S key k).isSome = true) → ks.length ≤ 1048576)
    (hR : ∀ v ks w', Below w.heap.size w w' → ks.Nodup → (∀ k, k ∈ ks ↔ (innerG S key k).isSome = true) → SlK strsK 1 w' (fun k => w.heap.size ≤ k) v (sortedK ks) → R (.returned v) w') :
    Calls Tryz.prog 76 #[.pointer (some ⟨h.d, 0, none⟩), .string key] w R := by
  have HR := Lib.hid hR
  clear hR
  have c4 : w.cell? ⟨h.d, 4, none⟩ = some (.map (some h.v)) := cell_at D.hd rfl
  obtain ⟨m, hm, hmf⟩ := D.fv
  have hat := hmf key
  have l1 := hm.lookup strK Tryz.underlying122 (z := .map none) (by kernel_rfl) key false
  simp only [Bool.false_eq_true, if_false] at l1
  cases hV : S.values key with
  | none =>
    rw [hV] at hat
    rw [hat.none_l] at l1
    simp only [Option.getD_none] at l1
    have hi : ∀ k, innerG S key k = none := fun k => by unfold innerG; rw [hV]
    have HI := Lib.hid hi
    clear hi hat hmf hm
    go_enter Tryz.func76, Tryz.ntmps76
    go_wp2_with fail
    refine callsIn_wide.1 ((Tryz.maps_Keys_155 none w).mono ?_)
    rintro e w' ⟨rfl, rfl⟩
    go_wp2_with fail
    refine callsIn_wide.1 ((Tryz.slices_Sorted_keys_nil_74_155 w).mono ?_)
    rintro e w' ⟨v, ss, rfl, rfl, hrow, -, hb⟩
    have hv := HR.out v [] w' (((Below.refl _ w).alloc (Nat.le_refl _) _).trans (hb.mono (by simp))) List.nodup_nil (fun k => by rw [HI.out]; simp) (by
      have hrow' : w'.ownsRow (w.alloc (.cells #[.map none] 159)).heap.size 9 1 v ([] : List (List UInt8)).length (([] : List (List UInt8)).map encStr) := by simpa using hrow
      have := row_sl hrow'
      simpa [sortedK] using SlK.mono strOk this (fun k hk => by simp at hk; omega))
    clear hrow hb
    go_wp2_with fail
    exact hv
  | some g =>
    rw [hV] at hat
    obtain ⟨v0, hv0, bI, rfl, oI, mi, hmi, hfi⟩ := hat.some_l
    rw [hv0] at l1
    simp only [Option.getD_some] at l1
    have hi : ∀ k, (innerG S key k).isSome = true ↔ k ∈ akeys mi := fun k => by
      unfold innerG
      rw [hV, mem_akeys_iff]
      have := hfi k
      cases e1 : aget mi k <;> cases e2 : g k <;> rw [e1, e2] at this <;> first | exact this.elim | simp [e2]
    have hnd := hmi.nodup
    have hlen : mi.length ≤ 1048576 := by
      have := hnum (akeys mi) hnd (fun k hk => (hi k).2 hk)
      simpa [akeys] using this
    obtain ⟨DD, hown, hperm, hsize⟩ := ownsMap_of hmi (fun p hp => Nat.le_trans (hsz p.1 ((hi p.1).2 (List.mem_map_of_mem hp))) (by unfold maxLen; omega)) (by unfold maxLen; omega)
    have HI := Lib.hid hi
    have HND := Lib.hid hnd
    have HP := Lib.hid hperm
    have HO := Lib.hid hown
    have HS := Lib.hid hsize
    clear hi hnd hperm hown hsize hat hmf hm hmi hfi hv0 hsz hnum
    go_enter Tryz.func76, Tryz.ntmps76
    go_wp2_with fail
    refine callsIn_wide.1 ((Tryz.maps_Keys_155 (some bI) w).mono ?_)
    rintro e w' ⟨rfl, rfl⟩
    go_wp2_with fail
    refine callsIn_wide.1 ((Tryz.slices_Sorted_keys_74_155 bI mi.length DD RR w HO.out (by rw [HS.out]; unfold maxLen; omega) (by rw [HS.out]; omega)).mono ?_)
    rintro e w' ⟨v, ss, rfl, hS, hrow, -, hb⟩
    have hp2 : ss.Perm ((akeys mi).map (·.data.toList)) := by
      have := hS.trans HP.out
      show ss.Perm ((mi.map Prod.fst).map (·.data.toList))
      rw [List.map_map]
      exact this
    have hrow2 : w'.ownsRow (w.alloc (.cells #[.map (some bI)] 159)).heap.size 9 1 v (ss.mergeSort (fun x y => decide (x ≤ y))).length ((ss.mergeSort (fun x y => decide (x ≤ y))).map encStr) := by
      rw [List.length_mergeSort]; exact hrow
    have hsl := row_sl hrow2
    rw [sortedK_eq hp2] at hsl
    have hv := HR.out v (akeys mi) w' (((Below.refl _ w).alloc (Nat.le_refl _) _).trans (hb.mono (by simp))) HND.out (fun k => (HI.out k).symm) (SlK.mono strOk hsl (fun k hk => by simp at hk; omega))
    clear hrow hb hS hp2 hrow2 hsl
    go_wp2_with fail
    exact hv
theorem valuesOfNil_k (R : Ending → World → Prop) (w : World) (key : ByteArray) (hR : R (.returned (.slice none 0 0)) w) : Calls Tryz.prog 76 #[.pointer none, .string key] w R := by
  go_enter Tryz.func76, Tryz.ntmps76
  go_wp2_with fail
  exact hR
theorem keysNil_k (R : Ending → World → Prop) (w : World) (hR : R (.returned (.slice none 0 0)) w) : Calls Tryz.prog 19 #[.pointer none] w R := by
  go_enter Tryz.func19, Tryz.ntmps19
  go_wp2_with fail
  exact hR
set_option maxRecDepth 100000 in
set_option maxHeartbeats 4000000 in
/-- Keys. -/
theorem keys_d (R : Ending → World → Prop) (w : World) (h : Hdr) (own : Own') (S : St) (D : DomAt w h own S) (hsz : ∀ k, (S.values k).isSome = true → k.size ≤ 1048576)
    (hnum : ∀ ks : List ByteArray, ks.Nodup → (∀ k, k ∈ ks → (S.values k).isSome = true) → ks.length ≤ 1048576)
    (hR : ∀ v ks w', Below w.heap.size w w' → ks.Nodup → (∀ k, k ∈ ks ↔ (S.values k).isSome = true) → SlK strsK 1 w' (fun k => w.heap.size ≤ k) v (sortedK ks) → R (.returned v) w') :
    Calls Tryz.prog 19 #[.pointer (some ⟨h.d, 0, none⟩)] w R := by
  have HR := Lib.hid hR
  clear hR
  have c4 : w.cell? ⟨h.d, 4, none⟩ = some (.map (some h.v)) := cell_at D.hd rfl
  obtain ⟨m, hm, hmf⟩ := D.fv
  have hi : ∀ k, (S.values k).isSome = true ↔ k ∈ akeys m := fun k => by
    rw [mem_akeys_iff]
    have := hmf k
    cases e1 : aget m k <;> cases e2 : S.values k <;> rw [e1, e2] at this <;> first | exact this.elim | simp
  have hnd := hm.nodup
  have hlen : m.length ≤ 1048576 := by
    have := hnum (akeys m) hnd (fun k hk => (hi k).2 hk)
    simpa [akeys] using this
  obtain ⟨DD, hown, hperm, hsize⟩ := ownsMap_of hm (fun p hp => Nat.le_trans (hsz p.1 ((hi p.1).2 (List.mem_map_of_mem hp))) (by unfold maxLen; omega)) (by unfold maxLen; omega)
  have HI := Lib.hid hi
  have HND := Lib.hid hnd
  have HP := Lib.hid hperm
  have HO := Lib.hid hown
  have HS := Lib.hid hsize
  clear hi hnd hperm hown hsize hmf hm hsz hnum
  go_enter Tryz.func19, Tryz.ntmps19
  go_wp2_with fail
  refine callsIn_wide.1 ((Tryz.maps_Keys_75 (some h.v) w).mono ?_)
  rintro e w' ⟨rfl, rfl⟩
  go_wp2_with fail
  refine callsIn_wide.1 ((Tryz.slices_Sorted_keys_74_75 h.v m.length DD RR w HO.out (by rw [HS.out]; unfold maxLen; omega) (by rw [HS.out]; omega)).mono ?_)
  rintro e w' ⟨v, ss, rfl, hS, hrow, -, hb⟩
  have hp2 : ss.Perm ((akeys m).map (·.data.toList)) := by
    have := hS.trans HP.out
    show ss.Perm ((m.map Prod.fst).map (·.data.toList))
    rw [List.map_map]
    exact this
  have hrow2 : w'.ownsRow (w.alloc (.cells #[.map (some h.v)] 122)).heap.size 9 1 v (ss.mergeSort (fun x y => decide (x ≤ y))).length ((ss.mergeSort (fun x y => decide (x ≤ y))).map encStr) := by
    rw [List.length_mergeSort]; exact hrow
  have hsl := row_sl hrow2
  rw [sortedK_eq hp2] at hsl
  have hv := HR.out v (akeys m) w' (((Below.refl _ w).alloc (Nat.le_refl _) _).trans (hb.mono (by simp))) HND.out (fun k => (HI.out k).symm) (SlK.mono strOk hsl (fun k hk => by simp at hk; omega))
  clear hrow hb hS hp2 hrow2 hsl
  go_wp2_with fail
  exact hv
end Go.Proofs.YtmenipaibjifiaaGreatDoor

namespace Go.Proofs.YtmenipaibjifiaaGreatDoor
open Go.RowKit Go.BigFrame

theorem infoStr' : (Tryz.prog.info? 9).map (fun i => (i.zero, i.size, i.bytes)) = some (some (.string ⟨#[]⟩), 1, 16) := by kernel_rfl
/-- A text into a rising list. -/
def putB : List ByteArray → ByteArray → List ByteArray
  | [], s => [s]
  | x :: r, s => if x = s then x :: r else if ltB x s = true then x :: putB r s else s :: x :: r
theorem putB_pre {l : List ByteArray} {s : ByteArray} : ∀ {k : Nat}, k ≤ l.length → (∀ j (hj : j < l.length), j < k → ¬ (l[j]'hj) = s ∧ ltB (l[j]'hj) s = true) → putB l s = l.take k ++ putB (l.drop k) s := by
  induction l with
  | nil => intro k hk _; simp at hk; subst hk; rfl
  | cons x r ih =>
    intro k hk h
    cases k with
    | zero => rfl
    | succ k =>
      have h0 : ¬ x = s ∧ ltB x s = true := h 0 (by simp) (by omega)
      simp only [putB, if_neg h0.1, if_pos h0.2, List.take_succ_cons, List.drop_succ_cons, List.cons_append]
      rw [ih (by simpa using hk) (fun j hj hk => h (j + 1) (by simp; omega) (by omega))]
theorem putB_eq {l : List ByteArray} {s : ByteArray} {k : Nat} (hk : k < l.length) (h : ∀ j (hj : j < l.length), j < k → ¬ (l[j]'hj) = s ∧ ltB (l[j]'hj) s = true) (he : (l[k]'hk) = s) : putB l s = l := by
  rw [putB_pre (Nat.le_of_lt hk) h, List.drop_eq_getElem_cons hk]
  simp only [putB, if_pos he]
  rw [← List.drop_eq_getElem_cons hk, List.take_append_drop]
theorem putB_lt {l : List ByteArray} {s : ByteArray} {k : Nat} (hk : k < l.length) (h : ∀ j (hj : j < l.length), j < k → ¬ (l[j]'hj) = s ∧ ltB (l[j]'hj) s = true) (hn : ¬ (l[k]'hk) = s) (he : ltB (l[k]'hk) s = false) : putB l s = l.take k ++ s :: l.drop k := by
  rw [putB_pre (Nat.le_of_lt hk) h, List.drop_eq_getElem_cons hk]
  simp [putB, if_neg hn, he]
theorem putB_end {l : List ByteArray} {s : ByteArray} (h : ∀ j (hj : j < l.length), ¬ (l[j]'hj) = s ∧ ltB (l[j]'hj) s = true) : putB l s = l ++ [s] := by
  rw [putB_pre (Nat.le_refl _) (fun j hj _ => h j hj)]
  simp [putB]
theorem SlK.drop_ {w : World} {ok : Nat → Prop} {b off n c : Nat} {xs : List ByteArray} (h : SlK strsK 1 w ok (.slice (some ⟨b, off, none⟩) n c) xs) {k : Nat} (hk : k < xs.length) : SlK strsK 1 w ok (.slice (some ⟨b, off + k, none⟩) (n - k) (c - k)) (xs.drop k) := by
  obtain ⟨A', c', he, h1, h2, h4⟩ := h
  simp only [Value.slice.injEq] at he
  obtain ⟨rfl, rfl, rfl⟩ := he
  refine ⟨_, _, by rw [List.length_drop], by simp; omega, by omega, ?_⟩
  rcases h4 with h4 | ⟨b', off', h5, h6, h7, h8⟩
  · rw [h4] at hk; simp at hk
  · simp only [Option.some.injEq, Addr.mk.injEq, and_true] at h5
    obtain ⟨rfl, rfl⟩ := h5
    refine .inr ⟨_, _, rfl, h6, h7, fun j y hy => ?_⟩
    rw [List.getElem?_drop] at hy
    obtain ⟨cs, k1, k2, k3⟩ := h8 (k + j) y hy
    refine ⟨cs, k1, k2, fun i u hu => ?_⟩
    have := k3 i u hu
    rw [show off + k + (j * 1 + i) = off + ((k + j) * 1 + i) by omega]
    exact this
theorem SlK.take_ {w : World} {ok : Nat → Prop} {A : Option Addr} {n c : Nat} {xs : List ByteArray} (h : SlK strsK 1 w ok (.slice A n c) xs) {k : Nat} (hk : k < xs.length) : SlK strsK 1 w ok (.slice A k c) (xs.take k) := by
  obtain ⟨A', c', he, h1, h2, h4⟩ := h
  simp only [Value.slice.injEq] at he
  obtain ⟨rfl, -, rfl⟩ := he
  refine ⟨_, _, by rw [List.length_take, Nat.min_eq_left (by omega)], by simp; omega, h2, ?_⟩
  rcases h4 with h4 | ⟨b, off, h5, h6, h7, h8⟩
  · rw [h4] at hk; simp at hk
  · refine .inr ⟨b, off, h5, h6, h7, fun j y hy => ?_⟩
    rw [List.getElem?_take] at hy
    split at hy
    · exact h8 j y hy
    · cases hy
set_option maxRecDepth 100000 in
set_option maxHeartbeats 4000000 in
theorem put_k (R : Ending → World → Prop) (w : World) (ok : Nat → Prop) (l : List ByteArray) (s : ByteArray) (v : Value) (hok : ∀ k, ok k → k < w.heap.size) (hx : SlK strsK 1 w ok v l) (hl : l.length ≤ 1073741824)
    (hR : ∀ v' w', Below w.heap.size w w' → SlK strsK 1 w' (fun k => ok k ∨ w.heap.size ≤ k) v' (putB l s) → R (.returned v') w') :
    Calls Tryz.prog 145 #[v, .string s] w R := by
  have hB : Below w.heap.size w w := Below.refl _ _
  have HR := Lib.hid hR
  clear hR
  obtain ⟨A, c, e, hlc, hcm⟩ := hx.form
  subst e
  go_enter Tryz.func145, Tryz.ntmps145
  go_wp2_with fail
  go_loop [5] (fun i => ∃ k : Nat, k ≤ l.length ∧ i = .int .i64 k ∧ ∀ j (hj : j < l.length), j < k → ¬ (l[j]'hj) = s ∧ ltB (l[j]'hj) s = true) (fun i => l.length - (intOf i).toNat)
  case atStart => exact ⟨0, Nat.zero_le _, rfl, fun j hj h => absurd h (Nat.not_lt_zero _)⟩
  case round =>
    obtain ⟨k, hk, rfl, hin⟩ := hrel
    have Hin := Lib.hid hin
    clear hin
    by_cases hkl : k < l.length
    · obtain ⟨b, off, c', he, _, _, hbk, hbl, hce⟩ := hx.addr (by omega)
      simp only [Value.slice.injEq] at he
      obtain ⟨rfl, -, rfl⟩ := he
      obtain ⟨cs1, hc1, _, hc2⟩ := hce k hkl
      cases hc1
      have c0 : w.cell? ⟨b, off + k, none⟩ = some (.string (l[k]'hkl)) := by simpa using hc2 0 _ rfl
      clear hce hc2
      by_cases hs : (l[k]'hkl) = s
      · have hv := HR.out _ w hB (by rw [putB_eq hkl Hin.out hs]; exact SlK.mono strOk hx (fun _ h => .inl h))
        have hs2 : ((l[k]'hkl).toList == s.toList) = true := by rw [hs]; simp
        clear hs hx
        go_wp2_with fail
        exact hv
      · have hs2 : ((l[k]'hkl).toList == s.toList) = false := by rw [ba_toList_beq]; simpa using hs
        have Hs := Lib.hid hs
        clear hs
        have HX := Lib.hid hx
        clear hx
        have hB0 : Below w.heap.size w (w.alloc (.cells #[] 9)) := Below.alloc (Below.refl _ _) (Nat.le_refl _) _
        have hO : OwnK strsK 1 9 (w.alloc (.cells #[] 9)) w.heap.size (fun _ => False) (.slice (some ⟨w.heap.size, 0, none⟩) 0 0) ([] : List ByteArray) := OwnK.made (fun _ h => h.elim) (Nat.le_refl _) (by simp [maxLen]) rfl
        cases hlt : Op.bytesLess (l[k]'hkl).toList s.toList with
        | true =>
          have Hlt := Lib.hid (show ltB (l[k]'hkl) s = true from hlt)
          go_wp2_with fail
          go_round
          case rel => exact ⟨k + 1, by omega, by go_num, fun j hj h => by
            rcases Nat.lt_or_ge j k with h' | h'
            · exact Hin.out j hj h'
            · obtain rfl : j = k := by omega
              exact ⟨Hs.out, Hlt.out⟩⟩
          case measure => simp [intOf]; omega
        | false =>
          have Hlt := Lib.hid (show ltB (l[k]'hkl) s = false from hlt)
          go_wp2_with (at_builtin; refine append_row_k strOk rfl _ _ 61 9 (.string ⟨#[]⟩) 16 w.heap.size (fun _ => False) ok (fun _ _ h => h) rfl Tryz.underlying61 infoStr' rfl (by decide) (by decide) _ _ [] (l.take k) rfl rfl ?e1x1 hO ?e1x0 ?e1x2 ?e1x3 ?_)
          case e1x1 =>
            intro _ _ _ _ h u hu
            cases h
            simp [strC] at hu
            subst hu; rfl
          case e1x0 => exact (HX.out.take_ hkl).below strOk hB0 hok
          case e1x3 => (try simp) <;> omega
          intro v2 w2 hO2 hg2 _
          try rw [List.nil_append] at hO2
          have hB2 := hB0.grown hg2 hB0.size (fun k h => (hO.own k h).1)
          go_wp2_with (at_builtin; refine append_k strOk rfl _ _ 61 9 (.string ⟨#[]⟩) 16 w.heap.size (fun _ => False) rfl Tryz.underlying61 infoStr' rfl (by decide) (by decide) v2 (l.take k) s #[.string s] rfl rfl ?e2x1 hO2 ?e2x2 hB2.size ?e2x3 ?_)
          case e2x1 => simp [Value.oneCell']
          case e2x2 => rfl
          case e2x3 => (try simp) <;> omega
          intro v3 w3 hO3 hg3 _
          have hB3 := hB2.grown hg3 hB2.size (fun k h => (hO2.own k h).1)
          go_wp2_with (at_builtin; refine append_row_k strOk rfl _ _ 61 9 (.string ⟨#[]⟩) 16 w.heap.size (fun _ => False) ok (fun _ _ h => h) rfl Tryz.underlying61 infoStr' rfl (by decide) (by decide) v3 _ (l.take k ++ [s]) (l.drop k) rfl rfl ?e3x1 hO3 ?e3x0 ?e3x2 ?e3x3 ?_)
          case e3x1 =>
            intro _ _ _ _ h u hu
            cases h
            simp [strC] at hu
            subst hu; rfl
          case e3x0 => exact (HX.out.drop_ hkl).below strOk hB3 hok
          case e3x2 => exact hB3.size
          case e3x3 => (try simp) <;> omega
          intro v4 w4 hO4 hg4 _
          have hB4 := hB3.grown hg4 hB3.size (fun k h => (hO3.own k h).1)
          have hO4' : OwnK strsK 1 9 w4 w.heap.size (fun _ => False) v4 (l.take k ++ s :: l.drop k) := by simpa using hO4
          have hv := HR.out v4 w4 hB4 (by rw [putB_lt hkl Hin.out Hs.out Hlt.out]; exact SlK.mono strOk (hO4'.slk strOk) (fun j hj => hj.elim (fun h => h.elim) (fun h => .inr (hO4.own j h).1)))
          go_wp2_with fail
          exact hv
    · obtain rfl : k = l.length := by omega
      have hB0 : Below w.heap.size w (w.alloc (.cells #[] 9)) := Below.alloc (Below.refl _ _) (Nat.le_refl _) _
      have hO : OwnK strsK 1 9 (w.alloc (.cells #[] 9)) w.heap.size (fun _ => False) (.slice (some ⟨w.heap.size, 0, none⟩) 0 0) ([] : List ByteArray) := OwnK.made (fun _ h => h.elim) (Nat.le_refl _) (by simp [maxLen]) rfl
      have HX := Lib.hid hx
      clear hx
      go_wp2_with (at_builtin; refine append_row_k strOk rfl _ _ 61 9 (.string ⟨#[]⟩) 16 w.heap.size (fun _ => False) ok (fun _ _ h => h) rfl Tryz.underlying61 infoStr' rfl (by decide) (by decide) _ _ [] l rfl rfl ?e4x1 hO ?e4x0 ?e4x2 ?e4x3 ?_)
      case e4x1 =>
        intro _ _ _ _ h u hu
        cases h
        simp [strC] at hu
        subst hu; rfl
      case e4x0 => exact HX.out.below strOk hB0 hok
      case e4x3 => (try simp) <;> omega
      intro v2 w2 hO2 hg2 _
      try rw [List.nil_append] at hO2
      have hB2 := hB0.grown hg2 hB0.size (fun k h => (hO.own k h).1)
      go_wp2_with (at_builtin; refine append_k strOk rfl _ _ 61 9 (.string ⟨#[]⟩) 16 w.heap.size (fun _ => False) rfl Tryz.underlying61 infoStr' rfl (by decide) (by decide) v2 l s #[.string s] rfl rfl ?e5x1 hO2 ?e5x2 hB2.size ?e5x3 ?_)
      case e5x1 => simp [Value.oneCell']
      case e5x2 => rfl
      case e5x3 => (try simp) <;> omega
      intro v3 w3 hO3 hg3 _
      have hB3 := hB2.grown hg3 hB2.size (fun k h => (hO2.own k h).1)
      have hv := HR.out v3 w3 hB3 (by rw [putB_end (fun j hj => Hin.out j hj hj)]; exact SlK.mono strOk (hO3.slk strOk) (fun j hj => hj.elim (fun h => h.elim) (fun h => .inr (hO3.own j h).1)))
      go_wp2_with fail
      exact hv
end Go.Proofs.YtmenipaibjifiaaGreatDoor

namespace Go.Proofs.YtmenipaibjifiaaGreatDoor
open Go.RowKit

theorem rise_eq {α : Type} {r : α → α → Prop} (hi : ∀ a, ¬ r a a) (ht : ∀ a b, r a b → ¬ r b a) : ∀ {l m : List α}, l.Pairwise r → m.Pairwise r → (∀ x, x ∈ l ↔ x ∈ m) → l = m
  | [], [], _, _, _ => rfl
  | [], b :: m, _, _, h => absurd ((h b).2 List.mem_cons_self) (by simp)
  | a :: l, [], _, _, h => absurd ((h a).1 List.mem_cons_self) (by simp)
  | a :: l, b :: m, hl, hm, h => by
    rw [List.pairwise_cons] at hl hm
    have hab : a = b := by
      rcases List.mem_cons.1 ((h a).1 List.mem_cons_self) with e | e
      · exact e
      · rcases List.mem_cons.1 ((h b).2 List.mem_cons_self) with e2 | e2
        · exact e2.symm
        · exact absurd (hl.1 _ e2) (ht _ _ (hm.1 _ e))
    subst hab
    congr 1
    refine rise_eq hi ht hl.2 hm.2 fun x => ⟨fun hx => ?_, fun hx => ?_⟩
    · rcases List.mem_cons.1 ((h x).1 (List.mem_cons_of_mem _ hx)) with e | e
      · subst e; exact absurd (hl.1 _ hx) (hi _)
      · exact e
    · rcases List.mem_cons.1 ((h x).2 (List.mem_cons_of_mem _ hx)) with e | e
      · subst e; exact absurd (hm.1 _ hx) (hi _)
      · exact e
abbrev ltL (a b : ByteArray) : Prop := a.data.toList < b.data.toList
theorem ba_ext {a b : ByteArray} (h : a.data.toList = b.data.toList) : a = b := by
  cases a; cases b; congr 1; exact Array.toList_inj.1 h
theorem ltL_irr (a : ByteArray) : ¬ ltL a a := List.lt_irrefl _
theorem ltL_asymm (a b : ByteArray) (h : ltL a b) : ¬ ltL b a := List.lt_asymm h
theorem ltL_tri {a b : ByteArray} (h1 : a ≠ b) (h2 : ¬ ltL a b) : ltL b a := by
  rcases List.le_iff_lt_or_eq.1 (List.not_lt.1 h2) with h | h
  · exact h
  · exact absurd (ba_ext h).symm h1
theorem mem_sortedK_iff {ks : List ByteArray} {v : ByteArray} : v ∈ sortedK ks ↔ v ∈ ks := by
  unfold sortedK
  constructor
  · intro h
    obtain ⟨l, hl, e⟩ := List.mem_map.1 h
    rw [List.mem_mergeSort] at hl
    obtain ⟨k, hk, rfl⟩ := List.mem_map.1 hl
    have : k = v := by rw [← e]
    rw [← this]; exact hk
  · intro h
    refine List.mem_map.2 ⟨v.data.toList, ?_, rfl⟩
    rw [List.mem_mergeSort]
    exact List.mem_map_of_mem h
theorem rise_sortedK {ks : List ByteArray} (h : ks.Nodup) : (sortedK ks).Pairwise ltL := by
  unfold sortedK
  rw [List.pairwise_map]
  have h1 : ((ks.map (·.data.toList)).mergeSort (fun x y => decide (x ≤ y))).Pairwise (fun x y => decide (x ≤ y) = true) := List.pairwise_mergeSort (by intro a b c h1 h2; simp only [decide_eq_true_eq] at *; exact List.le_trans h1 h2) (by intro a b; simp only [Bool.or_eq_true, decide_eq_true_eq]; exact List.le_total a b) _
  have h2 : ((ks.map (·.data.toList)).mergeSort (fun x y => decide (x ≤ y))).Nodup := by
    rw [(List.mergeSort_perm _ _).nodup_iff]
    exact List.pairwise_map.2 (h.imp fun h e => h (ba_ext e))
  refine (h1.and h2).imp ?_
  rintro a b ⟨h1, h2⟩
  simp only [decide_eq_true_eq] at h1
  rcases List.le_iff_lt_or_eq.1 h1 with h | h
  · exact h
  · exact absurd h h2
theorem ltB_iff (a b : ByteArray) : ltB a b = true ↔ ltL a b := by
  unfold ltB
  rw [bytesLess_eq, Lib.toList_data, Lib.toList_data]
  simp
theorem mem_putB {s x : ByteArray} : ∀ {l : List ByteArray}, x ∈ putB l s ↔ x = s ∨ x ∈ l
  | [] => by simp [putB]
  | y :: r => by
    unfold putB
    split
    · next h => subst h; simp
    · split
      · simp only [List.mem_cons, mem_putB (l := r)]
        constructor
        · rintro (h | h | h) <;> simp [h]
        · rintro (h | h | h) <;> simp [h]
      · simp
theorem rise_putB {s : ByteArray} : ∀ {l : List ByteArray}, l.Pairwise ltL → (putB l s).Pairwise ltL
  | [], _ => by simp [putB]
  | y :: r, h => by
    have h0 := h
    rw [List.pairwise_cons] at h
    unfold putB
    split
    · exact h0
    · next hne =>
      split
      · next hl =>
        rw [List.pairwise_cons]
        refine ⟨fun z hz => ?_, rise_putB h.2⟩
        rcases mem_putB.1 hz with e | e
        · subst e; exact (ltB_iff _ _).1 hl
        · exact h.1 z e
      · next hl =>
        have hsy : ltL s y := ltL_tri hne (fun e => hl ((ltB_iff _ _).2 e))
        rw [List.pairwise_cons]
        refine ⟨fun z hz => ?_, h0⟩
        rcases List.mem_cons.1 hz with e | e
        · subst e; exact hsy
        · exact List.lt_trans hsy (h.1 z e)
/-- A list put together out of options. -/
def putAll (l : List ByteArray) (r : List ByteArray) : List ByteArray := r.foldl putB l
theorem mem_putAll {x : ByteArray} : ∀ {r l : List ByteArray}, x ∈ putAll l r ↔ x ∈ l ∨ x ∈ r
  | [], l => by simp [putAll]
  | y :: r, l => by
    show x ∈ putAll (putB l y) r ↔ _
    rw [mem_putAll, mem_putB]
    simp only [List.mem_cons]
    constructor
    · rintro ((h | h) | h) <;> simp [h]
    · rintro (h | h | h) <;> simp [h]
theorem rise_putAll : ∀ {r l : List ByteArray}, l.Pairwise ltL → (putAll l r).Pairwise ltL
  | [], _, h => h
  | _ :: r, _, h => rise_putAll (r := r) (rise_putB h)
theorem sortedK_putAll {ks r : List ByteArray} (h : ks.Nodup) (hk : ∀ x, x ∈ ks ↔ x ∈ r) : sortedK ks = putAll [] r :=
  rise_eq ltL_irr ltL_asymm (rise_sortedK h) (rise_putAll List.Pairwise.nil) fun x => by rw [mem_sortedK_iff, mem_putAll, hk]; simp
end Go.Proofs.YtmenipaibjifiaaGreatDoor

namespace Go.Proofs.YtmenipaibjifiaaGreatDoor
open Go.RowKit Go.BigFrame

theorem rget_t (R : Ending → World → Prop) (w : World) (ok : Nat → Prop) (v : Value) (xs : List Lab) (key : ByteArray) (s : ByteArray) (b : Bool) (hg : (getB xs key).getD ⟨#[]⟩ = s ∧ (getB xs key).isSome = b) (hok : ∀ k, ok k → k < w.heap.size) (hx : SlK labK 2 w ok v xs) (hl : xs.length ≤ 1073741824)
    (hR : ∀ w', Below w.heap.size w w' → R (.returned (.tuple #[.string s, .bool b])) w') :
    Calls Tryz.prog 146 #[v, .string key] w R := by
  refine rget_k R w ok v xs key hok hx hl ?_
  intro w' h
  unfold getV
  rw [hg.1, hg.2]
  exact hR w' h
def rNodeAt (d : RDom) (slot : Int) : Option RNode := d.nodes.find? (fun x => decide (x.slot = slot))
def rPodAt (d : RDom) (slot : Int) : Option RPod := d.pods.find? (fun x => decide (x.slot = slot))
def rOf (d : RDom) (key : ByteArray) (slot : Int) : Option ByteArray := (rNodeAt d slot).bind (fun x => getB x.labels key)
theorem idx_find {α : Type} (p : α → Bool) (l : List α) : (l.find? p = none ∧ idxBy p l = -1) ∨ ∃ (k : Nat) (hk : k < l.length), l.find? p = some (l[k]'hk) ∧ idxBy p l = k := by
  cases hf : l.findIdx? p with
  | none =>
    refine .inl ⟨?_, by unfold idxBy; rw [hf]⟩
    rw [List.findIdx?_eq_none_iff] at hf
    rw [List.find?_eq_none]
    intro x hx
    simp [hf x hx]
  | some k =>
    obtain ⟨hk, h1, h2⟩ := List.findIdx?_eq_some_iff_getElem.1 hf
    refine .inr ⟨k, hk, ?_, by unfold idxBy; rw [hf]⟩
    rw [List.find?_eq_some_iff_getElem]
    exact ⟨h1, k, hk, rfl, fun j hj => by simpa using h2 j hj⟩
set_option maxRecDepth 100000 in
set_option maxHeartbeats 4000000 in
theorem rof_t (R : Ending → World → Prop) (w : World) (ok : Nat → Prop) (d : RDom) (key : ByteArray) (slot : Int) (cs : List Value) (s : ByteArray) (bb : Bool) (hg : (rOf d key slot).getD ⟨#[]⟩ = s ∧ (rOf d key slot).isSome = bb) (hok : ∀ k, ok k → k < w.heap.size) (hd : rdomK w ok d cs) (hl : d.nodes.length ≤ 1073741824) (hll : ∀ x ∈ d.nodes, x.labels.length ≤ 1073741824)
    (hR : ∀ w', Below w.heap.size w w' → R (.returned (.tuple #[.string s, .bool bb])) w') :
    Calls Tryz.prog 65 #[.agg cs.toArray, .string key, .int .i64 slot] w R := by
  obtain ⟨vn, vp, rfl, hn, hp⟩ := hd
  have hB : Below w.heap.size w (w.alloc (.cells #[vn, vp] 29)) := Below.alloc (Below.refl _ _) (Nat.le_refl _) _
  have q0 : (w.alloc (.cells #[vn, vp] 29)).cell? ⟨w.heap.size, 0, none⟩ = some vn := cell_new rfl
  have q1 : (w.alloc (.cells #[vn, vp] 29)).cell? ⟨w.heap.size, 1, none⟩ = some vp := cell_new rfl
  have HR := Lib.hid hR
  have HN := Lib.hid (hn.below rnodeOk hB hok)
  have HP := Lib.hid (hp.below rpodOk hB hok)
  obtain ⟨A, c, e, hlc, _⟩ := hn.form
  subst e
  obtain ⟨A2, c2, e2, hlc2, _⟩ := hp.form
  subst e2
  have hok' : ∀ k, ok k → k < (w.alloc (.cells #[.slice A d.nodes.length c, .slice A2 d.pods.length c2] 29)).heap.size := fun k h => by have := hok k h; simp; omega
  have HOK := Lib.hid hok'
  have HLL := Lib.hid hll
  have HG := Lib.hid hg
  clear hR hn hp hok hok' hll hg
  go_enter Tryz.func65, Tryz.ntmps65
  go_wp2_with fail
  refine rnode_k _ _ ok d slot [_, _] HOK.out ⟨_, _, rfl, HN.out, HP.out⟩ hl ?_
  intro w2 g2
  rcases idx_find (fun x : RNode => decide (x.slot = slot)) d.nodes with ⟨h1, h2⟩ | ⟨k, hk, h1, h2⟩
  · have ho : rOf d key slot = none := by unfold rOf rNodeAt; rw [h1]; rfl
    have hv := HR.out w2 (hB.trans (g2.mono hB.size))
    have hgo := HG.out
    rw [ho] at hgo
    obtain ⟨rfl, rfl⟩ := hgo
    simp only [Option.getD_none, Option.isSome_none] at hv
    rw [h2]
    clear ho h1 h2
    go_wp2_with fail
    exact hv
  · have hk' := hk
    obtain ⟨x, hx⟩ : ∃ x, d.nodes[k]'hk = x := ⟨_, rfl⟩
    have ho : rOf d key slot = getB x.labels key := by unfold rOf rNodeAt; rw [h1, hx]; rfl
    have hgo := HG.out
    rw [ho] at hgo
    have HGO := Lib.hid hgo
    have hxl : x.labels.length ≤ 1073741824 := HLL.out x (by rw [← hx]; exact List.getElem_mem hk)
    have hn2 := HN.out.below rnodeOk g2 HOK.out
    obtain ⟨b, off, c', he, _, _, hbk, hbl, hce⟩ := hn2.addr (by omega)
    simp only [Value.slice.injEq] at he
    obtain ⟨rfl, -, rfl⟩ := he
    obtain ⟨v1, c0, c1, hv1⟩ := rnode_cells hce k hk
    rw [hx] at hv1
    have q0' := (Mod.of_below g2).cell' q0 (fun h => h)
    have HV1 := Lib.hid hv1
    have HB2 := Lib.hid (hB.trans (g2.mono hB.size))
    have hs2 := g2.size
    rw [h2]
    clear hce hn2 hv1 hgo ho hx h1 h2 g2
    go_wp2_with fail
    refine rget_t _ _ ok v1 x.labels key s bb HGO.out (fun j hj => Nat.lt_of_lt_of_le (HOK.out j hj) hs2) HV1.out hxl ?_
    intro w3 g3
    have hv := HR.out w3 (HB2.out.trans (g3.mono HB2.out.size))
    clear g3
    go_wp2_with fail
    exact hv
def hasV (xs : List Lab) (key value : ByteArray) : Bool := decide (getB xs key = some value)
def rNodesL (l : List RNode) (key value : ByteArray) : List Int := (l.filter (fun x => hasV x.labels key value)).map (fun x => x.slot)
theorem rNodesL_le (l : List RNode) (key value : ByteArray) : (rNodesL l key value).length ≤ l.length := by
  unfold rNodesL; rw [List.length_map]; exact List.length_filter_le _ _
theorem rNodesL_snoc (l : List RNode) (key value : ByteArray) {k : Nat} (hk : k < l.length) : rNodesL (l.take (k + 1)) key value = rNodesL (l.take k) key value ++ (if hasV (l[k]'hk).labels key value = true then [(l[k]'hk).slot] else []) := by
  rw [take_snoc l k hk]
  unfold rNodesL
  rw [List.filter_append, List.map_append]
  congr 1
  by_cases h : hasV (l[k]'hk).labels key value = true <;> simp [h]
set_option maxRecDepth 100000 in
set_option maxHeartbeats 4000000 in
theorem rnodes_k (R : Ending → World → Prop) (w : World) (ok : Nat → Prop) (d : RDom) (key value : ByteArray) (cs : List Value) (hok : ∀ k, ok k → k < w.heap.size) (hd : rdomK w ok d cs) (hl : d.nodes.length ≤ 1073741824) (hll : ∀ x ∈ d.nodes, x.labels.length ≤ 1073741824)
    (hR : ∀ v' w', Below w.heap.size w w' → SlK intsK 1 w' (fun k => w.heap.size ≤ k) v' (rNodesL d.nodes key value) → R (.returned v') w') :
    Calls Tryz.prog 147 #[.agg cs.toArray, .string key, .string value] w R := by
  obtain ⟨vn, vp, rfl, hn, hp⟩ := hd
  have hB : Below w.heap.size w (w.alloc (.cells #[vn, vp] 29)) := Below.alloc (Below.refl _ _) (Nat.le_refl _) _
  have q0 : (w.alloc (.cells #[vn, vp] 29)).cell? ⟨w.heap.size, 0, none⟩ = some vn := cell_new rfl
  have HR := Lib.hid hR
  have HN := Lib.hid (hn.below rnodeOk hB hok)
  obtain ⟨A, c, e, hlc, _⟩ := hn.form
  subst e
  obtain ⟨A2, c2, e2, hlc2, _⟩ := hp.form
  subst e2
  have HOK := Lib.hid (show ∀ k, ok k → k < (w.alloc (.cells #[.slice A d.nodes.length c, .slice A2 d.pods.length c2] 29)).heap.size from fun k h => by have := hok k h; simp; omega)
  have HLL := Lib.hid hll
  clear hR hn hp hok hll
  go_enter Tryz.func147, Tryz.ntmps147
  go_wp2_with fail
  generalize hW0 : w.alloc (.cells #[.slice A d.nodes.length c, .slice A2 d.pods.length c2] 29) = w0 at *
  clear hW0
  go_loopw [7, 8] (fun v i wr => ∃ k : Nat, k ≤ d.nodes.length ∧ i = .int .i64 k ∧ Below w0.heap.size w0 wr ∧ OwnK intsK 1 3 wr w0.heap.size (fun _ => False) v (rNodesL (d.nodes.take k) key value)) (fun _ i _ => d.nodes.length - (intOf i).toNat)
  case atStart => exact ⟨0, Nat.zero_le _, rfl, Below.refl _ _, .nil (fun _ h => h.elim)⟩
  case round =>
    obtain ⟨k, hk, rfl, hBr, hO⟩ := hrel
    have q0' := (Mod.of_below hBr).cell' q0 (fun h => h)
    have hsr := hBr.size
    by_cases hkl : k < d.nodes.length
    · have hn2 := HN.out.below rnodeOk hBr HOK.out
      obtain ⟨b, off, c', he, _, _, hbk, hbl, hce⟩ := hn2.addr (by omega)
      simp only [Value.slice.injEq] at he
      obtain ⟨rfl, -, rfl⟩ := he
      obtain ⟨v1, c0, c1, hv1⟩ := rnode_cells hce k hkl
      have hxl : (d.nodes[k]'hkl).labels.length ≤ 1073741824 := HLL.out _ (List.getElem_mem hkl)
      have hsn := rNodesL_snoc d.nodes key value hkl
      have hle : (rNodesL (d.nodes.take k) key value).length ≤ 1073741824 := Nat.le_trans (rNodesL_le _ _ _) (by simp; omega)
      obtain ⟨x, hx⟩ : ∃ x, d.nodes[k]'hkl = x := ⟨_, rfl⟩
      rw [hx] at hv1 hxl hsn c0
      obtain ⟨sx, hsx⟩ : ∃ sx, x.slot = sx := ⟨_, rfl⟩
      rw [hsx] at c0 hsn
      have HSN := Lib.hid hsn
      have HV1 := Lib.hid hv1
      have HBR := Lib.hid hBr
      have HO := Lib.hid hO
      clear hce hn2 hv1 hx hsn hBr hO hsx
      go_wp2_with fail
      cases hg : getB x.labels key with
      | none =>
        have Hh := Lib.hid (show hasV x.labels key value = false by unfold hasV; rw [hg]; simp)
        have HG := Lib.hid (show (getB x.labels key).getD ⟨#[]⟩ = ⟨#[]⟩ ∧ (getB x.labels key).isSome = false by rw [hg]; exact ⟨rfl, rfl⟩)
        clear hg
        refine rget_t _ _ ok v1 x.labels key _ _ HG.out (fun j hj => Nat.lt_of_lt_of_le (HOK.out j hj) hsr) HV1.out hxl ?_
        intro w3 g3
        have HB3 := Lib.hid (HBR.out.trans (g3.mono HBR.out.size))
        have HO3 := Lib.hid (HO.out.move intOk (w' := w3) (fun j hj _ => g3.block j hj) g3.size)
        clear g3
        go_wp2_with fail
        go_roundw
        case rel => exact ⟨k + 1, by omega, by go_num, HB3.out, by rw [HSN.out, Hh.out]; simpa using HO3.out⟩
        case measure => simp [intOf]; omega
      | some u =>
        have HG := Lib.hid (show (getB x.labels key).getD ⟨#[]⟩ = u ∧ (getB x.labels key).isSome = true by rw [hg]; exact ⟨rfl, rfl⟩)
        have Hgg := Lib.hid hg
        clear hg
        refine rget_t _ _ ok v1 x.labels key _ _ HG.out (fun j hj => Nat.lt_of_lt_of_le (HOK.out j hj) hsr) HV1.out hxl ?_
        intro w3 g3
        have hB3 := HBR.out.trans (g3.mono HBR.out.size)
        have hO3 := HO.out.move intOk (w' := w3) (fun j hj _ => g3.block j hj) g3.size
        have q0'' := (Mod.of_below g3).cell' q0' (fun h => h)
        have c0' := (Mod.of_below g3).cell' c0 (fun h => h)
        cases he : (u.toList == value.toList) with
        | false =>
          have Hh := Lib.hid (show hasV x.labels key value = false by unfold hasV; rw [Hgg.out]; rw [ba_toList_beq] at he; simpa using he)
          have HB3 := Lib.hid hB3
          have HO3 := Lib.hid hO3
          clear g3 hB3 hO3
          go_wp2_with fail
          go_roundw
          case rel => exact ⟨k + 1, by omega, by go_num, HB3.out, by rw [HSN.out, Hh.out]; simpa using HO3.out⟩
          case measure => simp [intOf]; omega
        | true =>
          have Hh := Lib.hid (show hasV x.labels key value = true by unfold hasV; rw [Hgg.out]; rw [ba_toList_beq] at he; simpa using he)
          have HB3 := Lib.hid hB3
          clear g3 hB3
          go_wp2_with (at_builtin; refine append_k intOk rfl _ _ 43 3 (.int .i64 0) 8 w0.heap.size (fun _ => False) rfl Tryz.underlying43 infoInt rfl (by decide) (by decide) u7 (rNodesL (d.nodes.take k) key value) sx #[.int .i64 sx] rfl rfl ?d1 hO3 ?d2 HB3.out.size ?d3 ?_)
          case d1 => simp [Value.oneCell']
          case d2 => rfl
          case d3 => (try simp) <;> omega
          intro v4 w4 hO4 hg4 _
          have hB4 := HB3.out.grown hg4 HB3.out.size (fun k h => (hO3.own k h).1)
          have HO4 := Lib.hid hO4
          have HB4 := Lib.hid hB4
          clear hO4 hg4 hB4 hO3
          go_wp2_with fail
          go_roundw
          case rel => exact ⟨k + 1, by omega, by go_num, HB4.out, by rw [HSN.out, Hh.out]; simpa using HO4.out⟩
          case measure => simp [intOf]; omega
    · obtain rfl : k = d.nodes.length := by omega
      rw [List.take_length] at hO
      have hv := HR.out u7 wr (hB.trans (hBr.mono hB.size)) (SlK.mono intOk (hO.slk intOk) (fun j hj => hj.elim (fun h => h.elim) (fun h => Nat.le_trans hB.size (hO.own j h).1)))
      clear hO hBr
      go_wp2_with fail
      exact hv
def rPodsL (d : RDom) (l : List RPod) (key value : ByteArray) : List Int := (l.filter (fun x => decide (rOf d key x.on = some value))).map (fun x => x.slot)
theorem rPodsL_le (d : RDom) (l : List RPod) (key value : ByteArray) : (rPodsL d l key value).length ≤ l.length := by
  unfold rPodsL; rw [List.length_map]; exact List.length_filter_le _ _
theorem rPodsL_snoc (d : RDom) (l : List RPod) (key value : ByteArray) {k : Nat} (hk : k < l.length) : rPodsL d (l.take (k + 1)) key value = rPodsL d (l.take k) key value ++ (if decide (rOf d key (l[k]'hk).on = some value) = true then [(l[k]'hk).slot] else []) := by
  rw [take_snoc l k hk]
  unfold rPodsL
  rw [List.filter_append, List.map_append]
  congr 1
  by_cases h : rOf d key (l[k]'hk).on = some value <;> simp [h]
set_option maxRecDepth 100000 in
set_option maxHeartbeats 4000000 in
theorem rpods_k (R : Ending → World → Prop) (w : World) (ok : Nat → Prop) (d : RDom) (key value : ByteArray) (cs : List Value) (hok : ∀ k, ok k → k < w.heap.size) (hd : rdomK w ok d cs) (hl : d.nodes.length ≤ 1073741824) (hpl : d.pods.length ≤ 1073741824) (hll : ∀ x ∈ d.nodes, x.labels.length ≤ 1073741824)
    (hR : ∀ v' w', Below w.heap.size w w' → SlK intsK 1 w' (fun k => w.heap.size ≤ k) v' (rPodsL d d.pods key value) → R (.returned v') w') :
    Calls Tryz.prog 148 #[.agg cs.toArray, .string key, .string value] w R := by
  obtain ⟨vn, vp, rfl, hn, hp⟩ := hd
  have hB : Below w.heap.size w (w.alloc (.cells #[vn, vp] 29)) := Below.alloc (Below.refl _ _) (Nat.le_refl _) _
  have q0 : (w.alloc (.cells #[vn, vp] 29)).cell? ⟨w.heap.size, 0, none⟩ = some vn := cell_new rfl
  have q1 : (w.alloc (.cells #[vn, vp] 29)).cell? ⟨w.heap.size, 1, none⟩ = some vp := cell_new rfl
  have HR := Lib.hid hR
  have HN := Lib.hid (hn.below rnodeOk hB hok)
  have HP := Lib.hid (hp.below rpodOk hB hok)
  obtain ⟨A, c, e, hlc, _⟩ := hn.form
  subst e
  obtain ⟨A2, c2, e2, hlc2, _⟩ := hp.form
  subst e2
  have HOK := Lib.hid (show ∀ k, ok k → k < (w.alloc (.cells #[.slice A d.nodes.length c, .slice A2 d.pods.length c2] 29)).heap.size from fun k h => by have := hok k h; simp; omega)
  have HLL := Lib.hid hll
  clear hR hn hp hok hll
  go_enter Tryz.func148, Tryz.ntmps148
  go_wp2_with fail
  generalize hW0 : w.alloc (.cells #[.slice A d.nodes.length c, .slice A2 d.pods.length c2] 29) = w0 at *
  clear hW0
  go_loopw [7, 8] (fun v i wr => ∃ k : Nat, k ≤ d.pods.length ∧ i = .int .i64 k ∧ Below w0.heap.size w0 wr ∧ OwnK intsK 1 3 wr w0.heap.size (fun _ => False) v (rPodsL d (d.pods.take k) key value)) (fun _ i _ => d.pods.length - (intOf i).toNat)
  case atStart => exact ⟨0, Nat.zero_le _, rfl, Below.refl _ _, .nil (fun _ h => h.elim)⟩
  case round =>
    obtain ⟨k, hk, rfl, hBr, hO⟩ := hrel
    have q0' := (Mod.of_below hBr).cell' q0 (fun h => h)
    have q1' := (Mod.of_below hBr).cell' q1 (fun h => h)
    have hsr := hBr.size
    by_cases hkl : k < d.pods.length
    · have hp2 := HP.out.below rpodOk hBr HOK.out
      obtain ⟨b, off, c', he, _, _, hbk, hbl, hce⟩ := hp2.addr (by omega)
      simp only [Value.slice.injEq] at he
      obtain ⟨rfl, -, rfl⟩ := he
      obtain ⟨v1, c0, c1, -, -⟩ := rpod_cells hce k hkl
      have hsn := rPodsL_snoc d d.pods key value hkl
      have hle : (rPodsL d (d.pods.take k) key value).length ≤ 1073741824 := Nat.le_trans (rPodsL_le _ _ _ _) (by simp; omega)
      obtain ⟨sx, hsx⟩ : ∃ sx, (d.pods[k]'hkl).slot = sx := ⟨_, rfl⟩
      obtain ⟨ox, hox⟩ : ∃ ox, (d.pods[k]'hkl).on = ox := ⟨_, rfl⟩
      rw [hsx] at c0 hsn
      rw [hox] at c1 hsn
      have HSN := Lib.hid hsn
      have HBR := Lib.hid hBr
      have HO := Lib.hid hO
      have HK := Lib.hid (show ∀ w', Below wr.heap.size wr w' → Below wr.heap.size wr w' ∧ w'.cell? ⟨w.heap.size, 0, none⟩ = some (.slice A d.nodes.length c) ∧ w'.cell? ⟨w.heap.size, 1, none⟩ = some (.slice (some ⟨b, off, none⟩) d.pods.length c2) ∧ w'.cell? ⟨b, off + k * 3 + 1, none⟩ = some (.int .i64 ox) from
        fun w' hw => ⟨hw, (Mod.of_below hw).cell' q0' (fun h => h), (Mod.of_below hw).cell' q1' (fun h => h), (Mod.of_below hw).cell' c1 (fun h => h)⟩)
      have HRD := Lib.hid (show rdomK wr ok d [.slice A d.nodes.length c, .slice (some ⟨b, off, none⟩) d.pods.length c2] from ⟨_, _, rfl, HN.out.below rnodeOk hBr HOK.out, hp2⟩)
      have HOKr := Lib.hid (show ∀ j, ok j → j < wr.heap.size from fun j hj => Nat.lt_of_lt_of_le (HOK.out j hj) hsr)
      clear hce hp2 hsn hBr hO hsx hox
      go_wp2_with fail
      cases hg : rOf d key ox with
      | none =>
        have Hh := Lib.hid (show decide (rOf d key ox = some value) = false by rw [hg]; simp)
        have HG := Lib.hid (show (rOf d key ox).getD ⟨#[]⟩ = ⟨#[]⟩ ∧ (rOf d key ox).isSome = false by rw [hg]; exact ⟨rfl, rfl⟩)
        clear hg
        go_region_held3 (fun w' => Below wr.heap.size wr w' ∧ w'.cell? ⟨w.heap.size, 0, none⟩ = some (.slice A d.nodes.length c) ∧ w'.cell? ⟨w.heap.size, 1, none⟩ = some (.slice (some ⟨b, off, none⟩) d.pods.length c2) ∧ w'.cell? ⟨b, off + k * 3 + 1, none⟩ = some (.int .i64 ox))
          (first
          | exact HK.out _ (Below.refl _ wr).drew
          | exact HK.out _ y1)
          (first
          | (go_at_call 65; refine rof_t _ _ ok d key ox [_, _] _ _ HG.out HOKr.out (HRD.out) hl HLL.out ?_; intro w3 g3
             have y1 : Below wr.heap.size wr w3 := Below.of_drew g3))
        all_goals (
          have HB3 := Lib.hid (HBR.out.trans (y1.mono HBR.out.size))
          have HO3 := Lib.hid (HO.out.move intOk (w' := w3) (fun j hj _ => y1.block j hj) y1.size)
          clear g3 y1
          go_wp2_with fail
          go_roundw
          case rel => exact ⟨k + 1, by omega, by go_num, HB3.out, by rw [HSN.out, Hh.out]; simpa using HO3.out⟩
          case measure => simp [intOf]; omega)
      | some u =>
        have HG := Lib.hid (show (rOf d key ox).getD ⟨#[]⟩ = u ∧ (rOf d key ox).isSome = true by rw [hg]; exact ⟨rfl, rfl⟩)
        have Hgg := Lib.hid hg
        clear hg
        go_region_held3 (fun w' => Below wr.heap.size wr w' ∧ w'.cell? ⟨w.heap.size, 0, none⟩ = some (.slice A d.nodes.length c) ∧ w'.cell? ⟨w.heap.size, 1, none⟩ = some (.slice (some ⟨b, off, none⟩) d.pods.length c2) ∧ w'.cell? ⟨b, off + k * 3 + 1, none⟩ = some (.int .i64 ox))
          (first
          | exact HK.out _ (Below.refl _ wr).drew
          | exact HK.out _ y1)
          (first
          | (go_at_call 65; refine rof_t _ _ ok d key ox [_, _] _ _ HG.out HOKr.out (HRD.out) hl HLL.out ?_; intro w3 g3
             have y1 : Below wr.heap.size wr w3 := Below.of_drew g3))
        all_goals (
          have hB3 := HBR.out.trans (y1.mono HBR.out.size)
          have hO3 := HO.out.move intOk (w' := w3) (fun j hj _ => y1.block j hj) y1.size
          have q1'' := (Mod.of_below y1).cell' q1' (fun h => h)
          have c0' := (Mod.of_below y1).cell' c0 (fun h => h)
          cases he : (u.toList == value.toList) with
          | false =>
            have Hh := Lib.hid (show decide (rOf d key ox = some value) = false by rw [Hgg.out]; rw [ba_toList_beq] at he; simpa using he)
            have HB3 := Lib.hid hB3
            have HO3 := Lib.hid hO3
            clear g3 hB3 hO3 y1
            go_wp2_with fail
            go_roundw
            case rel => exact ⟨k + 1, by omega, by go_num, HB3.out, by rw [HSN.out, Hh.out]; simpa using HO3.out⟩
            case measure => simp [intOf]; omega
          | true =>
            have Hh := Lib.hid (show decide (rOf d key ox = some value) = true by rw [Hgg.out]; rw [ba_toList_beq] at he; simpa using he)
            have HB3 := Lib.hid hB3
            clear g3 hB3 y1
            go_wp2_with (at_builtin; refine append_k intOk rfl _ _ 43 3 (.int .i64 0) 8 w0.heap.size (fun _ => False) rfl Tryz.underlying43 infoInt rfl (by decide) (by decide) u7 (rPodsL d (d.pods.take k) key value) sx #[.int .i64 sx] rfl rfl ?d1 hO3 ?d2 HB3.out.size ?d3 ?_)
            case d1 => simp [Value.oneCell']
            case d2 => rfl
            case d3 => (try simp) <;> omega
            intro v4 w4 hO4 hg4 _
            have hB4 := HB3.out.grown hg4 HB3.out.size (fun k h => (hO3.own k h).1)
            have HO4 := Lib.hid hO4
            have HB4 := Lib.hid hB4
            clear hO4 hg4 hB4 hO3
            go_wp2_with fail
            go_roundw
            case rel => exact ⟨k + 1, by omega, by go_num, HB4.out, by rw [HSN.out, Hh.out]; simpa using HO4.out⟩
            case measure => simp [intOf]; omega)
    · obtain rfl : k = d.pods.length := by omega
      rw [List.take_length] at hO
      have hv := HR.out u7 wr (hB.trans (hBr.mono hB.size)) (SlK.mono intOk (hO.slk intOk) (fun j hj => hj.elim (fun h => h.elim) (fun h => Nat.le_trans hB.size (hO.own j h).1)))
      clear hO hBr
      go_wp2_with fail
      exact hv
theorem rcmp_k (R : Ending → World → Prop) (w : World) (a c b : Int) (hR : R (.returned (.bool (standsB a c b))) w) :
    Calls Tryz.prog 213 #[.int .i64 a, .int .i64 c, .int .i64 b] w R := by
  have HR := Lib.hid hR
  clear hR
  have hv := HR.out
  unfold standsB at hv
  by_cases h1 : c = 1
  · rw [if_pos h1] at hv
    subst h1
    go_enter Tryz.func213, Tryz.ntmps213
    go_wp2_with fail
    exact hv
  rw [if_neg h1] at hv
  have q1 : (c == 1) = false := by simpa using h1
  by_cases h2 : c = 2
  · rw [if_pos h2] at hv
    subst h2
    go_enter Tryz.func213, Tryz.ntmps213
    go_wp2_with fail
    exact hv
  rw [if_neg h2] at hv
  have q2 : (c == 2) = false := by simpa using h2
  by_cases h3 : c = 3
  · rw [if_pos h3] at hv
    subst h3
    go_enter Tryz.func213, Tryz.ntmps213
    go_wp2_with fail
    exact hv
  rw [if_neg h3] at hv
  have q3 : (c == 3) = false := by simpa using h3
  by_cases h4 : c = 4
  · rw [if_pos h4] at hv
    subst h4
    go_enter Tryz.func213, Tryz.ntmps213
    go_wp2_with fail
    exact hv
  rw [if_neg h4] at hv
  have q4 : (c == 4) = false := by simpa using h4
  by_cases h5 : c = 5
  · rw [if_pos h5] at hv
    subst h5
    go_enter Tryz.func213, Tryz.ntmps213
    go_wp2_with fail
    exact hv
  rw [if_neg h5] at hv
  have q5 : (c == 5) = false := by simpa using h5
  by_cases h6 : c = 6
  · rw [if_pos h6] at hv
    subst h6
    go_enter Tryz.func213, Tryz.ntmps213
    go_wp2_with fail
    exact hv
  rw [if_neg h6] at hv
  have q6 : (c == 6) = false := by simpa using h6
  clear h1 h2 h3 h4 h5 h6
  go_enter Tryz.func213, Tryz.ntmps213
  go_wp2_with fail
  exact hv
end Go.Proofs.YtmenipaibjifiaaGreatDoor

namespace Go.Proofs.YtmenipaibjifiaaGreatDoor
open Go.RowKit Go.BigFrame

/-- How many of these pods stand in a domain. -/
def numT (S : St) (key : ByteArray) (m : Nat) (ps : List Nat) (v : ByteArray) : Int :=
  ((mems (max (setA S (key, v)).2.1 m) (zipW (· &&& ·) ((max (setA S (key, v)).2.1 m + 63) / 64) (setA S (key, v)).2.2 ps)).length : Nat)
/-- The first k numbers, zeros behind them. -/
def numsTo (f : ByteArray → Int) (vs : List ByteArray) (k : Nat) : List Int := (vs.take k).map f ++ List.replicate (vs.length - k) 0
theorem numsTo_length (f : ByteArray → Int) (vs : List ByteArray) (k : Nat) (h : k ≤ vs.length) : (numsTo f vs k).length = vs.length := by simp [numsTo]; omega
theorem numsTo_set (f : ByteArray → Int) (vs : List ByteArray) (k : Nat) (h : k < vs.length) : (numsTo f vs k).set k (f (vs[k]'h)) = numsTo f vs (k + 1) := by
  unfold numsTo
  have h1 : ((vs.take k).map f).length = k := by simp; omega
  rw [List.set_append_right _ _ (by omega), h1, Nat.sub_self, show vs.length - k = (vs.length - (k + 1)) + 1 by omega, List.replicate_succ, List.set_cons_zero, List.take_succ_eq_append_getElem h, List.map_append]
  simp
theorem numsTo_all (f : ByteArray → Int) (vs : List ByteArray) : numsTo f vs vs.length = vs.map f := by simp [numsTo]
def intCells (l : List Int) : Array Value := (l.map (Value.int .i64)).toArray
theorem ints_sl {w : World} {ok : Nat → Prop} {b : Nat} {l : List Int} (hb : w.heap[b]? = some (.cells (intCells l) 3)) (hok : ok b) (hl : l.length ≤ 1073741824) : SlK intsK 1 w ok (.slice (some ⟨b, 0, none⟩) l.length l.length) l := by
  refine ⟨_, _, rfl, Nat.le_refl _, by unfold maxLen; omega, .inr ⟨b, 0, rfl, hok, (Array.getElem?_eq_some_iff.1 hb).1, fun j x hx => ⟨intC x, rfl, rfl, fun i u hu => ?_⟩⟩⟩
  cases i with
  | succ i => simp [intC] at hu
  | zero =>
    simp only [intC, List.getElem?_cons_zero, Option.some.injEq] at hu
    subst hu
    refine cell_at hb ?_
    simp [intCells, hx]

set_option maxRecDepth 100000 in
set_option maxHeartbeats 4000000 in
theorem tally_d (R : Ending → World → Prop) (w : World) (h : Hdr) (own : Own') (S : St) (key : ByteArray) (okp : Nat → Prop) (vp : Value) (m : Nat) (ps : List Nat) (D : DomAt w h own S) (hP : SetP w okp vp m ps) (hokp : ∀ k, okp k → k < w.heap.size) (hm64 : m = 0 ∨ m = 2048)
    (hsz : ∀ v, (innerG S key v).isSome = true → v.size ≤ 1048576) (hnum : ∀ ks : List ByteArray, ks.Nodup → (∀ k, k ∈ ks → (innerG S key k).isSome = true) → ks.length ≤ 1048576)
    (hR : ∀ v nv ks w', Below w.heap.size w w' → ks.Nodup → (∀ k, k ∈ ks ↔ (innerG S key k).isSome = true) → SlK strsK 1 w' (fun k => w.heap.size ≤ k) v (sortedK ks) → SlK intsK 1 w' (fun k => w.heap.size ≤ k) nv ((sortedK ks).map (numT S key m ps)) → R (.returned (.tuple #[v, nv])) w') :
    Calls Tryz.prog 88 #[.pointer (some ⟨h.d, 0, none⟩), .string key, vp] w R := by
  have HR := Lib.hid hR
  have HD := Lib.hid D
  have HP := Lib.hid hP
  have HOKP := Lib.hid hokp
  clear hR D hP hokp
  obtain ⟨i0, hi, hz0, hz1, hz2⟩ := info_parts infoInt
  go_enter Tryz.func88, Tryz.ntmps88
  go_wp2_with fail
  refine valuesOf_d _ _ h own S key HD.out hsz (fun ks hk hks => hnum ks hk hks) ?_
  intro v ks w1 g1 hnd hks hsl
  have hkl : ks.length ≤ 1048576 := hnum ks hnd (fun k hk => (hks k).1 hk)
  obtain ⟨vs, hvs⟩ : ∃ vs, sortedK ks = vs := ⟨_, rfl⟩
  have hvl : vs.length ≤ 1048576 := by rw [← hvs]; simp [sortedK, List.length_mergeSort]; exact hkl
  rw [hvs] at hsl
  obtain ⟨Av, cv, ev, hcv, _⟩ := hsl.form
  subst ev
  have HG1 := Lib.hid g1
  have HND := Lib.hid hnd
  have HKS := Lib.hid hks
  have HVS := Lib.hid hvs
  have HSL := Lib.hid (hsl.bnd strOk)
  clear g1 hnd hks hvs hsl hnum hsz hkl
  go_wp2_with (at_make; refine wpList_make_row _ rfl _ _ 43 rfl 3 i0 (.int .i64 0) Tryz.underlying43 hi hz0 hz1 rfl _ _ vs.length rfl rfl (by rw [hz2]; omega) (by omega) ?_)
  have hb0 : (w1.alloc (.cells (madeCells #[.int .i64 0] vs.length) 3)).heap[w1.heap.size]? = some (.cells (intCells (numsTo (numT S key m ps) vs 0)) 3) := by
    rw [heap_alloc_new]
    congr 2
    apply Array.ext
    · simp [madeCells, intCells, numsTo]
    · intro i h1 h2
      simp [madeCells, Nat.mod_one, intCells, numsTo]
  have hB2 : Below w.heap.size w (w1.alloc (.cells (madeCells #[.int .i64 0] vs.length) 3)) := HG1.out.alloc HG1.out.size _
  have hs1 := HG1.out.size
  go_loopw [20] (fun i wr => ∃ k : Nat, k ≤ vs.length ∧ i = .int .i64 k ∧ Below w.heap.size w wr ∧ w1.heap.size < wr.heap.size ∧ (∀ j, j < w1.heap.size → wr.heap[j]? = w1.heap[j]?) ∧ wr.heap[w1.heap.size]? = some (.cells (intCells (numsTo (numT S key m ps) vs k)) 3)) (fun i _ => vs.length - (intOf i).toNat)
  case atStart => exact ⟨0, Nat.zero_le _, rfl, hB2, by simp, fun j hj => Below.heap_alloc _ _ _ hj, hb0⟩
  case round =>
    obtain ⟨k, hk, rfl, hB, hsz1, hold, hnb⟩ := hrel
    have hsr : SlK strsK 1 wr (fun j => w.heap.size ≤ j ∧ j < w1.heap.size) (.slice Av vs.length cv) vs := SlK.move strOk HSL.out (fun j hj => hold j hj.2)
    by_cases hkl : k < vs.length
    · obtain ⟨b, off, c', he, _, _, hbk, hbl, hce⟩ := hsr.addr (by omega)
      simp only [Value.slice.injEq] at he
      obtain ⟨rfl, -, rfl⟩ := he
      obtain ⟨cs, hcs, hcl, hcc⟩ := hce k hkl
      have hcx := hcc 0 (.string (vs[k]'hkl)) (by cases hcs; rfl)
      simp only [Nat.mul_one, Nat.add_zero] at hcx
      have HB := Lib.hid hB
      have HO := Lib.hid hold
      have HNB := Lib.hid hnb
      have HDr := Lib.hid (HD.out.below hB)
      have HPr := Lib.hid (HP.out.move (w' := wr) (fun j hj _ => hB.block j (HOKP.out j hj)) (fun _ hj _ => hj))
      clear hce hcc hcs hcl hsr hB hold hnb hb0 hB2
      go_wp2_with fail
      refine area_d _ _ h own S key (vs[k]'hkl) HDr.out ?_
      intro v1 v2 w3 g3 hA hPp
      have l2 := area_pods v1 v2 w3
      have HG3 := Lib.hid g3
      have HPp := Lib.hid hPp
      clear g3 hPp hA
      go_wp2_with fail
      refine and_k _ _ (fun j => j < w3.heap.size) v2 vp (setA S (key, vs[k]'hkl)).2.1 m (setA S (key, vs[k]'hkl)).2.2 ps (fun _ hj => hj) HPp.out.any (HPr.out.any.move (fun j hj _ => HG3.out.block j hj) (fun j hj _ => Nat.lt_of_lt_of_le hj HG3.out.size)) ?_
      intro s b2 w4 g4 g5 g6 hS4
      have HG4 := Lib.hid g4
      have HS4 := Lib.hid hS4
      have hb4 := HG3.out.trans (g4.mono HG3.out.size)
      have HB4 := Lib.hid hb4
      clear g4 g5 g6 hS4 hb4
      go_wp2_with fail
      refine bcount_p _ _ (fun _ => True) _ _ _ (.inr ⟨s, b2, rfl, HS4.out, trivial, trivial⟩) (by have := setA_n S (key, vs[k]'hkl); unfold setA at this ⊢; rcases hm64 with rfl | rfl <;> (split <;> first | rfl | decide | simp)) ?_
      have nb4 : w4.heap[w1.heap.size]? = some (.cells (intCells (numsTo (numT S key m ps) vs k)) 3) := (HB4.out.block _ hsz1).trans HNB.out
      have hlk : k < (numsTo (numT S key m ps) vs k).length := by rw [numsTo_length _ _ _ hk]; exact hkl
      have e0 : w4.cell? ⟨w1.heap.size, k, none⟩ = some (.int .i64 ((numsTo (numT S key m ps) vs k)[k]'hlk)) := cell_at nb4 (by simp [intCells, hlk])
      have e1 : w4.frozen? ⟨w1.heap.size, k, none⟩ = false := by simp [World.frozen?, nb4]
      have hset : (w4.setCell ⟨w1.heap.size, k, none⟩ (.int .i64 (numT S key m ps (vs[k]'hkl)))).heap[w1.heap.size]? = some (.cells (intCells (numsTo (numT S key m ps) vs (k + 1))) 3) := by
        rw [← numsTo_set _ _ _ hkl]
        simp only [World.setCell, Array.getElem?_modify]
        simp [nb4, intCells, List.map_set]
      have hother : ∀ j, j < wr.heap.size → j ≠ w1.heap.size → (w4.setCell ⟨w1.heap.size, k, none⟩ (.int .i64 (numT S key m ps (vs[k]'hkl)))).heap[j]? = wr.heap[j]? := fun j hj hne => (Below.heap_setCell _ _ _ _ hne).trans (HB4.out.block j hj)
      have hbel : Below w.heap.size w (w4.setCell ⟨w1.heap.size, k, none⟩ (.int .i64 (numT S key m ps (vs[k]'hkl)))) := (HB.out.trans (HB4.out.mono HB.out.size)).setCell (p := ⟨w1.heap.size, k, none⟩) hs1 _
      have hss : w1.heap.size < (w4.setCell ⟨w1.heap.size, k, none⟩ (.int .i64 (numT S key m ps (vs[k]'hkl)))).heap.size := by have := HB4.out.size; simp [World.setCell]; omega
      have H1 := Lib.hid hset
      have H2 := Lib.hid hother
      have H3 := Lib.hid hbel
      have H4 := Lib.hid hss
      clear hset hother hbel hss nb4
      go_wp2_with fail
      go_roundw
      case rel => exact ⟨k + 1, by omega, by go_num, H3.out, H4.out, fun j hj => (H2.out j (by omega) (by omega)).trans (HO.out j hj), H1.out⟩
      case measure => simp [intOf]; omega
    · obtain rfl : k = vs.length := by omega
      rw [numsTo_all] at hnb
      have hi2 := ints_sl (ok := fun j => w.heap.size ≤ j) hnb hs1 (by simp; omega)
      rw [List.length_map] at hi2
      have hv := HR.out _ _ ks wr hB HND.out HKS.out (by rw [HVS.out]; exact SlK.mono strOk hsr (fun j hj => hj.1)) (by rw [HVS.out]; exact hi2)
      clear hnb hi2 hsr hold hB hb0 hB2
      go_wp2_with fail
      exact hv
end Go.Proofs.YtmenipaibjifiaaGreatDoor
