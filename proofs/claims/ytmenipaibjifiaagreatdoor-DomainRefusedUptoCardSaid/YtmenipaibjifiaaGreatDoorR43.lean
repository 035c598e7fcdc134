/-
domain: Ranked, Near.
domain: Near, Tally; all of a nil Domains.
domain: Values.
The reference's lists of nodes and pods against what domain.Domains keeps. Plain Lean; no program.
What berthref09's questions answer: plain functions on the reference's lists; no program.
berthref09: Keys, Values, Count.
-/
import Derived.Test.YtmenipaibjifiaaGreatDoorR42
import Derived.Test.YtmenipaibjifiaaGreatDoorR39
import Derived.Test.YtmenipaibjifiaaGreatDoorR29
import Derived.Test.YtmenipaibjifiaaGreatDoorR15
import Derived.Test.YtmenipaibjifiaaGreatDoorR26
set_option linter.unusedVariables false
set_option linter.unusedSimpArgs false
namespace Go.Proofs.YtmenipaibjifiaaGreatDoor
open Go.RowKit Go.BigFrame

def rankOne (S : St) (key : ByteArray) (c n : Int) (m : Nat) (ps : List Nat) (ws : List Nat) (v : ByteArray) : List Nat :=
  if standsB (numT S key m ps v) c n then zipW (· ||| ·) 8 ws (setA S (key, v)).1.2 else ws
def rankF (S : St) (key : ByteArray) (c n : Int) (m : Nat) (ps : List Nat) (vs : List ByteArray) : List Nat := vs.foldl (rankOne S key c n m ps) (List.replicate 8 0)
theorem rankFold_length (S : St) (key : ByteArray) (c n : Int) (m : Nat) (ps : List Nat) : ∀ (vs : List ByteArray) (ws : List Nat), ws.length = 8 → (vs.foldl (rankOne S key c n m ps) ws).length = 8
  | [], ws, h => h
  | v :: r, ws, h => by
    rw [List.foldl_cons]
    refine rankFold_length S key c n m ps r _ ?_
    unfold rankOne
    split
    · rw [zipW_length]
    · exact h

set_option maxRecDepth 100000 in
set_option maxHeartbeats 4000000 in
theorem ranked_d (R : Ending → World → Prop) (w : World) (h : Hdr) (own : Own') (S : St) (key : ByteArray) (okp : Nat → Prop) (vp : Value) (m : Nat) (ps : List Nat) (c n : Int) (D : DomAt w h own S) (hP : SetP w okp vp m ps) (hokp : ∀ k, okp k → k < w.heap.size) (hm64 : m = 0 ∨ m = 2048)
    (hsz : ∀ v, (innerG S key v).isSome = true → v.size ≤ 1048576) (hnum : ∀ ks : List ByteArray, ks.Nodup → (∀ k, k ∈ ks → (innerG S key k).isSome = true) → ks.length ≤ 1048576)
    (hR : ∀ s b ks w', Below w.heap.size w w' → w.heap.size ≤ s → w.heap.size ≤ b → ks.Nodup → (∀ k, k ∈ ks ↔ (innerG S key k).isSome = true) → SetIn w' s b 512 (rankF S key c n m ps (sortedK ks)) → R (.returned (.pointer (some ⟨s, 0, none⟩))) w') :
    Calls Tryz.prog 28 #[.pointer (some ⟨h.d, 0, none⟩), .string key, vp, .int .i64 c, .int .i64 n] w R := by
  have HR := Lib.hid hR
  have HD := Lib.hid D
  have HP := Lib.hid hP
  have HOKP := Lib.hid hokp
  have hlim : ∀ k, w.heap.size ≤ k → own k = none := D.lim
  clear hR D hP hokp
  go_enter Tryz.func28, Tryz.ntmps28
  go_wp2_with fail
  refine bitmap_k _ _ 512 (by decide) ?_
  intro s b w1 g1 g2 g3 hS1
  have HG1 := Lib.hid g1
  have HS1 := Lib.hid hS1
  have hb1 := hS1.lt
  have hs1 := g1.size
  clear g1 hS1
  go_wp2_with fail
  refine tally_d _ _ h own S key okp vp m ps (HD.out.below HG1.out) (HP.out.move (fun k hk _ => HG1.out.block k (HOKP.out k hk)) (fun _ hk _ => hk)) (fun k hk => Nat.lt_of_lt_of_le (HOKP.out k hk) hs1) hm64 hsz hnum ?_
  intro v nv ks w2 g4 hnd hks hsl hnl
  have hkl : ks.length ≤ 1048576 := hnum ks hnd (fun k hk => (hks k).1 hk)
  obtain ⟨vs, hvs⟩ : ∃ vs, sortedK ks = vs := ⟨_, rfl⟩
  have hvl : vs.length ≤ 1048576 := by rw [← hvs]; simp [sortedK, List.length_mergeSort]; exact hkl
  rw [hvs] at hsl hnl
  obtain ⟨Av, cv, ev, hcv, _⟩ := hsl.form
  obtain ⟨An, cn, en, hcn, _⟩ := hnl.form
  subst ev
  subst en
  rw [List.length_map] at hcn
  have HG4 := Lib.hid g4
  have HND := Lib.hid hnd
  have HKS := Lib.hid hks
  have HVS := Lib.hid hvs
  have HSL := Lib.hid (hsl.bnd strOk)
  have HNL := Lib.hid (hnl.bnd intOk)
  have hB2 := HG1.out.trans (g4.mono hs1)
  have HB2 := Lib.hid hB2
  have hS2 := HS1.out.move (w' := w2) (g4.block _ hb1.1) (g4.block _ hb1.2)
  have HS2 := Lib.hid hS2
  have hs2 := g4.size
  clear g4 hnd hks hvs hsl hnl hnum hsz hkl hB2 hS2
  simp only [List.length_map]
  go_wp2_with fail
  go_loopw [26] (fun i wr => ∃ k : Nat, k ≤ vs.length ∧ i = .int .i64 k ∧ Mod (fun j => j = b) w2 wr ∧ SetIn wr s b 512 ((vs.take k).foldl (rankOne S key c n m ps) (List.replicate 8 0))) (fun i _ => vs.length - (intOf i).toNat)
  case atStart => exact ⟨0, Nat.zero_le _, rfl, Mod.refl _ _, HS2.out⟩
  case round =>
    obtain ⟨k, hk, rfl, hM, hSr⟩ := hrel
    have hsr : SlK strsK 1 wr (fun j => w1.heap.size ≤ j ∧ j < w2.heap.size) (.slice Av vs.length cv) vs := SlK.move strOk HSL.out (fun j hj => hM.block j hj.2 (by have := hj.1; omega))
    have hnr : SlK intsK 1 wr (fun j => w1.heap.size ≤ j ∧ j < w2.heap.size) (.slice An (vs.map (numT S key m ps)).length cn) (vs.map (numT S key m ps)) := SlK.move intOk HNL.out (fun j hj => hM.block j hj.2 (by have := hj.1; omega))
    have hBr : Below w.heap.size w wr := HB2.out.trans (hM.below (B := w.heap.size) (by omega) (fun j e => by rw [e]; exact g3))
    by_cases hkl : k < vs.length
    · obtain ⟨b3, off, c', he, _, _, hbk, hbl, hce⟩ := hsr.addr (by omega)
      simp only [Value.slice.injEq] at he
      obtain ⟨rfl, -, rfl⟩ := he
      obtain ⟨cs, hcs, hcl, hcc⟩ := hce k hkl
      have hcx := hcc 0 (.string (vs[k]'hkl)) (by cases hcs; rfl)
      simp only [Nat.mul_one, Nat.add_zero] at hcx
      have hkn : k < (vs.map (numT S key m ps)).length := by rw [List.length_map]; exact hkl
      obtain ⟨b4, off4, c4', he4, _, _, hbk4, hbl4, hce4⟩ := hnr.addr (by omega)
      simp only [Value.slice.injEq] at he4
      obtain ⟨rfl, -, rfl⟩ := he4
      obtain ⟨cs4, hcs4, hcl4, hcc4⟩ := hce4 k hkn
      have hcy := hcc4 0 (.int .i64 (numT S key m ps (vs[k]'hkl))) (by cases hcs4; simp [intC])
      simp only [Nat.mul_one, Nat.add_zero] at hcy
      have e1 : (vs.take (k + 1)).foldl (rankOne S key c n m ps) (List.replicate 8 0) = rankOne S key c n m ps ((vs.take k).foldl (rankOne S key c n m ps) (List.replicate 8 0)) (vs[k]'hkl) := by
        rw [List.take_succ_eq_append_getElem hkl, List.foldl_append]; rfl
      have HE1 := Lib.hid e1
      have HM := Lib.hid hM
      have HSr := Lib.hid hSr
      have HBr := Lib.hid hBr
      have hfl := rankFold_length S key c n m ps (vs.take k) (List.replicate 8 0) (by simp)
      have HFL := Lib.hid hfl
      clear hce hcc hcs hcl hce4 hcc4 hcs4 hcl4 e1 hM hSr hBr hsr hnr hfl
      cases hst : standsB (numT S key m ps (vs[k]'hkl)) c n with
      | false =>
        have er : rankOne S key c n m ps ((vs.take k).foldl (rankOne S key c n m ps) (List.replicate 8 0)) (vs[k]'hkl) = (vs.take k).foldl (rankOne S key c n m ps) (List.replicate 8 0) := by
          unfold rankOne; rw [hst]; simp
        have HER := Lib.hid er
        have HST := Lib.hid hst
        clear er hst
        go_wp2_with fail
        refine stands_k _ _ _ c n ?_
        rw [HST.out]
        go_wp2_with fail
        go_roundw
        case rel => exact ⟨k + 1, by omega, by go_num, HM.out, by rw [HE1.out, HER.out]; exact HSr.out⟩
        case measure => simp [intOf]; omega
      | true =>
        have er : rankOne S key c n m ps ((vs.take k).foldl (rankOne S key c n m ps) (List.replicate 8 0)) (vs[k]'hkl) = zipW (· ||| ·) 8 ((vs.take k).foldl (rankOne S key c n m ps) (List.replicate 8 0)) (setA S (key, vs[k]'hkl)).1.2 := by
          unfold rankOne; rw [hst]; simp
        have HER := Lib.hid er
        have HST := Lib.hid hst
        clear er hst
        go_wp2_with fail
        refine stands_k _ _ _ c n ?_
        rw [HST.out]
        go_wp2_with fail
        refine area_d _ _ h own S key (vs[k]'hkl) (HD.out.below HBr.out) ?_
        intro v1 v2 w3 g5 hA hPp
        have l2 := area_nodes v1 v2 w3
        have HG5 := Lib.hid g5
        have HA := Lib.hid hA
        clear g5 hPp hA
        go_wp2_with fail
        have hlt := HSr.out.lt
        refine orWith_k _ _ s b 512 _ (Owned own) v1 _ _ (HSr.out.move (HG5.out.block _ hlt.1) (HG5.out.block _ hlt.2)) (by decide) HA.out (fun e => e (hlim b g3)) ?_
        intro w4 hM4 hS4
        rw [HFL.out] at hS4
        have hM5 : Mod (fun j => j = b) w2 w4 := (HM.out.seq (Mod.of_below HG5.out).non_to).seq hM4
        have HM5 := Lib.hid hM5
        have HS4 := Lib.hid hS4
        clear hM4 hS4 hM5 hlt
        go_wp2_with fail
        go_roundw
        case rel => exact ⟨k + 1, by omega, by go_num, HM5.out, by rw [HE1.out, HER.out]; exact HS4.out⟩
        case measure => simp [intOf]; omega
    · obtain rfl : k = vs.length := by omega
      rw [List.take_length] at hSr
      have hv := HR.out s b ks wr hBr g2 g3 HND.out HKS.out (by rw [HVS.out]; exact hSr)
      clear hSr hBr hnr hsr hM
      go_wp2_with fail
      exact hv
end Go.Proofs.YtmenipaibjifiaaGreatDoor

namespace Go.Proofs.YtmenipaibjifiaaGreatDoor
open Go.RowKit Go.BigFrame

set_option maxRecDepth 100000 in
set_option maxHeartbeats 4000000 in
theorem near_d (R : Ending → World → Prop) (w : World) (h : Hdr) (own : Own') (S : St) (key : ByteArray) (okp : Nat → Prop) (vp : Value) (m : Nat) (ps : List Nat) (D : DomAt w h own S) (hP : SetP w okp vp m ps) (hokp : ∀ k, okp k → k < w.heap.size) (hm64 : m = 0 ∨ m = 2048)
    (hsz : ∀ v, (innerG S key v).isSome = true → v.size ≤ 1048576) (hnum : ∀ ks : List ByteArray, ks.Nodup → (∀ k, k ∈ ks → (innerG S key k).isSome = true) → ks.length ≤ 1048576)
    (hR : ∀ s b ks w', Below w.heap.size w w' → w.heap.size ≤ s → w.heap.size ≤ b → ks.Nodup → (∀ k, k ∈ ks ↔ (innerG S key k).isSome = true) → SetIn w' s b 512 (rankF S key 5 0 m ps (sortedK ks)) → R (.returned (.pointer (some ⟨s, 0, none⟩))) w') :
    Calls Tryz.prog 26 #[.pointer (some ⟨h.d, 0, none⟩), .string key, vp] w R := by
  have HR := Lib.hid hR
  have HD := Lib.hid D
  have HP := Lib.hid hP
  clear hR D hP
  go_enter Tryz.func26, Tryz.ntmps26
  go_wp2_with fail
  refine ranked_d _ _ h own S key okp vp m ps 5 0 HD.out HP.out hokp hm64 hsz hnum ?_
  intro s b ks w1 h1 h2 h3 h4 h5 h6
  have hv := HR.out s b ks w1 h1 h2 h3 h4 h5 h6
  clear h1 h2 h3 h4 h5 h6 hsz hnum hokp
  go_wp2_with fail
  exact hv
set_option maxRecDepth 100000 in
set_option maxHeartbeats 4000000 in
theorem tallyNil_k (R : Ending → World → Prop) (w : World) (key : ByteArray) (vp : Value)
    (hR : ∀ nv w', Below w.heap.size w w' → SlK intsK 1 w' (fun k => w.heap.size ≤ k) nv [] → R (.returned (.tuple #[.slice none 0 0, nv])) w') :
    Calls Tryz.prog 88 #[.pointer none, .string key, vp] w R := by
  have HR := Lib.hid hR
  clear hR
  obtain ⟨i0, hi, hz0, hz1, hz2⟩ := info_parts infoInt
  go_enter Tryz.func88, Tryz.ntmps88
  go_wp2_with fail
  refine valuesOfNil_k _ _ key ?_
  go_wp2_with (at_make; refine wpList_make_row _ rfl _ _ 43 rfl 3 i0 (.int .i64 0) Tryz.underlying43 hi hz0 hz1 rfl _ _ 0 rfl rfl (by rw [hz2]; omega) (by omega) ?_)
  go_loop [20] (fun i => i = .int .i64 0) (fun _ => 0)
  case atStart => rfl
  case round =>
    subst hrel
    have hv := HR.out (.slice (some ⟨w.heap.size, 0, none⟩) 0 0) _ (Below.alloc (Below.refl _ _) (Nat.le_refl _) (.cells (madeCells #[.int .i64 0] 0) 3)) ⟨_, 0, rfl, Nat.le_refl _, by unfold maxLen; omega, .inl rfl⟩
    go_wp2_with fail
    exact hv
set_option maxRecDepth 100000 in
set_option maxHeartbeats 4000000 in
theorem rankedNil_k (R : Ending → World → Prop) (w : World) (key : ByteArray) (vp : Value) (c n : Int)
    (hR : ∀ s b w', Below w.heap.size w w' → w.heap.size ≤ s → w.heap.size ≤ b → SetIn w' s b 512 (List.replicate 8 0) → R (.returned (.pointer (some ⟨s, 0, none⟩))) w') :
    Calls Tryz.prog 28 #[.pointer none, .string key, vp, .int .i64 c, .int .i64 n] w R := by
  have HR := Lib.hid hR
  clear hR
  go_enter Tryz.func28, Tryz.ntmps28
  go_wp2_with fail
  refine bitmap_k _ _ 512 (by decide) ?_
  intro s b w1 g1 g2 g3 hS1
  have HG1 := Lib.hid g1
  have HS1 := Lib.hid hS1
  have hb1 := hS1.lt
  clear g1 hS1
  go_wp2_with fail
  refine tallyNil_k _ _ key vp ?_
  intro nv w2 g4 hnl
  obtain ⟨An, cn, en, _, _⟩ := hnl.form
  subst en
  have hv := HR.out s b w2 (HG1.out.trans (g4.mono HG1.out.size)) g2 g3 (HS1.out.move (g4.block _ hb1.1) (g4.block _ hb1.2))
  clear g4 hnl
  go_wp2_with fail
  go_loop [26] (fun i => i = .int .i64 0) (fun _ => 0)
  case atStart => rfl
  case round =>
    subst hrel
    go_wp2_with fail
    exact hv
set_option maxRecDepth 100000 in
theorem nearNil_k (R : Ending → World → Prop) (w : World) (key : ByteArray) (vp : Value)
    (hR : ∀ s b w', Below w.heap.size w w' → w.heap.size ≤ s → w.heap.size ≤ b → SetIn w' s b 512 (List.replicate 8 0) → R (.returned (.pointer (some ⟨s, 0, none⟩))) w') :
    Calls Tryz.prog 26 #[.pointer none, .string key, vp] w R := by
  have HR := Lib.hid hR
  clear hR
  go_enter Tryz.func26, Tryz.ntmps26
  go_wp2_with fail
  refine rankedNil_k _ _ key vp 5 0 ?_
  intro s b w1 h1 h2 h3 h4
  have hv := HR.out s b w1 h1 h2 h3 h4
  clear h1 h2 h3 h4
  go_wp2_with fail
  exact hv
/-- An iterator over rows, at a world. -/
def RowsAt (w0 w : World) (B1 B2 : Nat) (vs : List ByteArray) (ns : List Int) : Prop :=
  ∃ sv nv, w0.heap.size ≤ B1 ∧ B1 < w.heap.size ∧ w0.heap.size ≤ B2 ∧ B2 < w.heap.size ∧ w.cell? ⟨B1, 0, none⟩ = some sv ∧ w.cell? ⟨B2, 0, none⟩ = some nv ∧ SlK strsK 1 w (fun k => w0.heap.size ≤ k ∧ k < w.heap.size) sv vs ∧ SlK intsK 1 w (fun k => w0.heap.size ≤ k ∧ k < w.heap.size) nv ns
theorem rowsAt_of {w0 w : World} {sv nv : Value} {vs : List ByteArray} {ns : List Int} (hb : w0.heap.size ≤ w.heap.size) (h1 : SlK strsK 1 w (fun k => w0.heap.size ≤ k) sv vs) (h2 : SlK intsK 1 w (fun k => w0.heap.size ≤ k) nv ns) :
    RowsAt w0 ((w.alloc (.cells #[sv] 61)).alloc (.cells #[nv] 43)) w.heap.size (w.heap.size + 1) vs ns := by
  have e1 : ((w.alloc (.cells #[sv] 61)).alloc (.cells #[nv] 43)).heap[w.heap.size]? = some (.cells #[sv] 61) := heap_keep (heap_alloc_new _ _) _
  have e2 : ((w.alloc (.cells #[sv] 61)).alloc (.cells #[nv] 43)).heap[w.heap.size + 1]? = some (.cells #[nv] 43) := by
    have := heap_alloc_new (w.alloc (.cells #[sv] 61)) (.cells #[nv] 43)
    rwa [World.size_alloc] at this
  have kp : ∀ k, k < w.heap.size → ((w.alloc (.cells #[sv] 61)).alloc (.cells #[nv] 43)).heap[k]? = w.heap[k]? := fun k hk => (Below.heap_alloc _ _ _ (by simp; omega)).trans (Below.heap_alloc _ _ _ hk)
  refine ⟨sv, nv, hb, by simp; omega, by omega, by simp, cell_at e1 rfl, cell_at e2 rfl, SlK.mono strOk (SlK.move strOk (SlK.bnd strOk h1) (fun k hk => kp k hk.2)) (fun k hk => ⟨hk.1, by have := hk.2; simp; omega⟩), SlK.mono intOk (SlK.move intOk (SlK.bnd intOk h2) (fun k hk => kp k hk.2)) (fun k hk => ⟨hk.1, by have := hk.2; simp; omega⟩)⟩
set_option maxRecDepth 100000 in
set_option maxHeartbeats 4000000 in
theorem tallyNil_r (R : Ending → World → Prop) (w : World) (key : ByteArray) (vp : Value)
    (hR : ∀ B1 B2 w', Below w.heap.size w w' → RowsAt w w' B1 B2 [] [] → R (.returned (.func (.func 156) #[] #[.pointer (some ⟨B1, 0, none⟩), .pointer (some ⟨B2, 0, none⟩)])) w') :
    Calls Tryz.prog 45 #[.pointer none, .string key, vp] w R := by
  have HR := Lib.hid hR
  clear hR
  go_enter Tryz.func45, Tryz.ntmps45
  go_wp2_with fail
  refine tallyNil_k _ _ key vp ?_
  intro nv w2 g4 hnl
  obtain ⟨An, cn, en, _, _⟩ := hnl.form
  subst en
  have hb : Below w.heap.size w ((w2.alloc (.cells #[.slice none 0 0] 61)).alloc (.cells #[.slice An ([] : List Int).length cn] 43)) := Below.alloc (g4.alloc g4.size _) (by have := g4.size; simp; omega) _
  have hv := HR.out _ _ _ hb (rowsAt_of g4.size SlK.nil hnl)
  clear g4 hnl hb
  go_wp2_with fail
  refine rows_k _ _ _ _ ⟨_, _, _, rfl⟩ ⟨_, _, _, rfl⟩ ?_
  go_wp2_with fail
  exact hv
set_option maxRecDepth 100000 in
set_option maxHeartbeats 4000000 in
theorem tally_r (R : Ending → World → Prop) (w : World) (h : Hdr) (own : Own') (S : St) (key : ByteArray) (okp : Nat → Prop) (vp : Value) (m : Nat) (ps : List Nat) (D : DomAt w h own S) (hP : SetP w okp vp m ps) (hokp : ∀ k, okp k → k < w.heap.size) (hm64 : m = 0 ∨ m = 2048)
    (hsz : ∀ v, (innerG S key v).isSome = true → v.size ≤ 1048576) (hnum : ∀ ks : List ByteArray, ks.Nodup → (∀ k, k ∈ ks → (innerG S key k).isSome = true) → ks.length ≤ 1048576)
    (hR : ∀ B1 B2 ks w', Below w.heap.size w w' → ks.Nodup → (∀ k, k ∈ ks ↔ (innerG S key k).isSome = true) → RowsAt w w' B1 B2 (sortedK ks) ((sortedK ks).map (numT S key m ps)) → R (.returned (.func (.func 156) #[] #[.pointer (some ⟨B1, 0, none⟩), .pointer (some ⟨B2, 0, none⟩)])) w') :
    Calls Tryz.prog 45 #[.pointer (some ⟨h.d, 0, none⟩), .string key, vp] w R := by
  have HR := Lib.hid hR
  have HD := Lib.hid D
  have HP := Lib.hid hP
  clear hR D hP
  go_enter Tryz.func45, Tryz.ntmps45
  go_wp2_with fail
  refine tally_d _ _ h own S key okp vp m ps HD.out HP.out hokp hm64 hsz hnum ?_
  intro v nv ks w2 g4 hnd hks hsl hnl
  obtain ⟨Av, cv, ev, _, _⟩ := hsl.form
  subst ev
  obtain ⟨An, cn, en, _, _⟩ := hnl.form
  subst en
  have hb : Below w.heap.size w ((w2.alloc (.cells #[.slice Av (sortedK ks).length cv] 61)).alloc (.cells #[.slice An ((sortedK ks).map (numT S key m ps)).length cn] 43)) := Below.alloc (g4.alloc g4.size _) (by have := g4.size; simp; omega) _
  have hv := HR.out _ _ ks _ hb hnd hks (rowsAt_of g4.size hsl hnl)
  clear g4 hnl hsl hb hnd hks hsz hnum hokp
  simp only [List.length_map] at hv ⊢
  go_wp2_with fail
  refine rows_k _ _ _ _ ⟨_, _, _, rfl⟩ ⟨_, _, _, rfl⟩ ?_
  go_wp2_with fail
  exact hv
end Go.Proofs.YtmenipaibjifiaaGreatDoor

namespace Go.Proofs.YtmenipaibjifiaaGreatDoor
open Go.RowKit Go.BigFrame

theorem toBA_data (v : ByteArray) : toBA v.data.toList = v := rfl
theorem mem_sortedK {ks : List ByteArray} {v : ByteArray} (h : v ∈ sortedK ks) : v ∈ ks := by
  unfold sortedK at h
  obtain ⟨l, hl, e⟩ := List.mem_map.1 h
  rw [List.mem_mergeSort] at hl
  obtain ⟨k, hk, rfl⟩ := List.mem_map.1 hl
  have e2 : toBA k.data.toList = v := e
  rw [toBA_data] at e2
  rw [← e2]; exact hk
set_option maxRecDepth 100000 in
set_option maxHeartbeats 4000000 in
theorem valuesNil_r (R : Ending → World → Prop) (w : World) (key : ByteArray)
    (hR : ∀ B1 B2 w', Below w.heap.size w w' → RowsAt w w' B1 B2 [] [] → R (.returned (.func (.func 156) #[] #[.pointer (some ⟨B1, 0, none⟩), .pointer (some ⟨B2, 0, none⟩)])) w') :
    Calls Tryz.prog 20 #[.pointer none, .string key] w R := by
  have HR := Lib.hid hR
  clear hR
  obtain ⟨i0, hi, hz0, hz1, hz2⟩ := info_parts infoInt
  go_enter Tryz.func20, Tryz.ntmps20
  go_wp2_with fail
  refine valuesOfNil_k _ _ key ?_
  go_wp2_with (at_make; refine wpList_make_row _ rfl _ _ 43 rfl 3 i0 (.int .i64 0) Tryz.underlying43 hi hz0 hz1 rfl _ _ 0 rfl rfl (by rw [hz2]; omega) (by omega) ?_)
  have hB : Below w.heap.size w (w.alloc (.cells (madeCells #[.int .i64 0] 0) 3)) := Below.alloc (Below.refl _ _) (Nat.le_refl _) _
  have hnl : SlK intsK 1 (w.alloc (.cells (madeCells #[.int .i64 0] 0) 3)) (fun k => w.heap.size ≤ k) (.slice (some ⟨w.heap.size, 0, none⟩) 0 0) [] := ⟨_, 0, rfl, Nat.le_refl _, by unfold maxLen; omega, .inl rfl⟩
  obtain ⟨W, hW⟩ : ∃ W, w.alloc (.cells (madeCells #[.int .i64 0] 0) 3) = W := ⟨_, rfl⟩
  rw [hW] at hB hnl ⊢
  have hb2 : Below w.heap.size w ((W.alloc (.cells #[.slice none 0 0] 61)).alloc (.cells #[.slice (some ⟨w.heap.size, 0, none⟩) 0 0] 43)) := Below.alloc (hB.alloc hB.size _) (by have := hB.size; simp; omega) _
  have hv := HR.out _ _ _ hb2 (rowsAt_of hB.size SlK.nil hnl)
  clear hb2 hnl hB hW
  go_loop [17] (fun i => i = .int .i64 0) (fun _ => 0)
  case atStart => rfl
  case round =>
    subst hrel
    go_wp2_with fail
    refine rows_k _ _ _ _ ⟨_, _, _, rfl⟩ ⟨_, _, _, rfl⟩ ?_
    go_wp2_with fail
    exact hv
def numV (S : St) (key v : ByteArray) : Int := (innerG S key v).getD 0
set_option maxRecDepth 100000 in
set_option maxHeartbeats 4000000 in
theorem values_r (R : Ending → World → Prop) (w : World) (h : Hdr) (own : Own') (S : St) (key : ByteArray) (D : DomAt w h own S)
    (hsz : ∀ v, (innerG S key v).isSome = true → v.size ≤ 1048576) (hnum : ∀ ks : List ByteArray, ks.Nodup → (∀ k, k ∈ ks → (innerG S key k).isSome = true) → ks.length ≤ 1048576)
    (hR : ∀ B1 B2 ks w', Below w.heap.size w w' → ks.Nodup → (∀ k, k ∈ ks ↔ (innerG S key k).isSome = true) → RowsAt w w' B1 B2 (sortedK ks) ((sortedK ks).map (numV S key)) → R (.returned (.func (.func 156) #[] #[.pointer (some ⟨B1, 0, none⟩), .pointer (some ⟨B2, 0, none⟩)])) w') :
    Calls Tryz.prog 20 #[.pointer (some ⟨h.d, 0, none⟩), .string key] w R := by
  have HR := Lib.hid hR
  have HD := Lib.hid D
  clear hR D
  obtain ⟨i0, hi, hz0, hz1, hz2⟩ := info_parts infoInt
  go_enter Tryz.func20, Tryz.ntmps20
  go_wp2_with fail
  refine valuesOf_d _ _ h own S key HD.out hsz (fun ks hk hks => hnum ks hk hks) ?_
  intro v ks w1 g1 hnd hks hsl
  have hkl : ks.length ≤ 1048576 := hnum ks hnd (fun k hk => (hks k).1 hk)
  obtain ⟨vs, hvs⟩ : ∃ vs, sortedK ks = vs := ⟨_, rfl⟩
  have hvl : vs.length ≤ 1048576 := by rw [← hvs]; simp [sortedK, List.length_mergeSort]; exact hkl
  have hmem : ∀ u, u ∈ vs → (innerG S key u).isSome = true := fun u hu => (hks u).1 (mem_sortedK (by rw [hvs]; exact hu))
  rw [hvs] at hsl
  obtain ⟨Av, cv, ev, hcv, _⟩ := hsl.form
  subst ev
  have HG1 := Lib.hid g1
  have HND := Lib.hid hnd
  have HKS := Lib.hid hks
  have HVS := Lib.hid hvs
  have HMEM := Lib.hid hmem
  have HSL := Lib.hid (hsl.bnd strOk)
  clear g1 hnd hks hvs hsl hnum hsz hkl hmem
  go_wp2_with (at_make; refine wpList_make_row _ rfl _ _ 43 rfl 3 i0 (.int .i64 0) Tryz.underlying43 hi hz0 hz1 rfl _ _ vs.length rfl rfl (by rw [hz2]; omega) (by omega) ?_)
  have hb0 : (w1.alloc (.cells (madeCells #[.int .i64 0] vs.length) 3)).heap[w1.heap.size]? = some (.cells (intCells (numsTo (numV S key) vs 0)) 3) := by
    rw [heap_alloc_new]
    congr 2
    apply Array.ext
    · simp [madeCells, intCells, numsTo]
    · intro i h1 h2
      simp [madeCells, Nat.mod_one, intCells, numsTo]
  have hB2 : Below w.heap.size w (w1.alloc (.cells (madeCells #[.int .i64 0] vs.length) 3)) := HG1.out.alloc HG1.out.size _
  have hs1 := HG1.out.size
  go_loopw [17] (fun i wr => ∃ k : Nat, k ≤ vs.length ∧ i = .int .i64 k ∧ Below w.heap.size w wr ∧ w1.heap.size < wr.heap.size ∧ (∀ j, j < w1.heap.size → wr.heap[j]? = w1.heap[j]?) ∧ wr.heap[w1.heap.size]? = some (.cells (intCells (numsTo (numV S key) vs k)) 3)) (fun i _ => vs.length - (intOf i).toNat)
  case atStart => exact ⟨0, Nat.zero_le _, rfl, hB2, by simp, fun j hj => Below.heap_alloc _ _ _ hj, hb0⟩
  case round =>
    obtain ⟨k, hk, rfl, hB, hsz1, hold, hnb⟩ := hrel
    have hsr : SlK strsK 1 wr (fun j => w.heap.size ≤ j ∧ j < w1.heap.size) (.slice Av vs.length cv) vs := SlK.move strOk HSL.out (fun j hj => hold j hj.2)
    by_cases hkl : k < vs.length
    · obtain ⟨b, off, c', he, _, _, hbk, hbl, hce⟩ := hsr.addr (by omega)
      simp only [Value.slice.injEq] at he
      obtain ⟨rfl, -, rfl⟩ := he
      obtain ⟨cs, hcs, hcl, hcc⟩ := hce k hkl
      have hcx := hcc 0 (.string (vs[k]'hkl)) (by cases hcs; rfl)
      simp only [Nat.mul_one, Nat.add_zero] at hcx
      have Dr := HD.out.below hB
      have c4 : wr.cell? ⟨h.d, 4, none⟩ = some (.map (some h.v)) := cell_at Dr.hd rfl
      obtain ⟨m, hm, hmf⟩ := Dr.fv
      have hat := hmf key
      have l1 := hm.lookup strK Tryz.underlying122 (z := .map none) (by kernel_rfl) key false
      simp only [Bool.false_eq_true, if_false] at l1
      have hin := HMEM.out (vs[k]'hkl) (List.getElem_mem hkl)
      obtain ⟨g, hV⟩ : ∃ g, S.values key = some g := by
        cases hV : S.values key with
        | some g => exact ⟨g, rfl⟩
        | none => unfold innerG at hin; rw [hV] at hin; simp at hin
      rw [hV] at hat
      obtain ⟨v0, hv0, bI, rfl, oI, mi, hmi, hfi⟩ := hat.some_l
      rw [hv0] at l1
      simp only [Option.getD_some] at l1
      have hig : innerG S key = g := by unfold innerG; rw [hV]
      have hq : (aget mi (vs[k]'hkl)).getD (.int .i64 0) = .int .i64 (numV S key (vs[k]'hkl)) := by
        unfold numV
        rw [hig]
        have := hfi (vs[k]'hkl)
        cases e1 : aget mi (vs[k]'hkl) <;> cases e2 : g (vs[k]'hkl) <;> rw [e1, e2] at this
        · rfl
        · exact this.elim
        · exact this.elim
        · exact this
      have l2 := hmi.lookup strK Tryz.underlying159 (z := .int .i64 0) (by kernel_rfl) (vs[k]'hkl) false
      rw [hq] at l2
      simp only [Bool.false_eq_true, if_false] at l2
      have hlk : k < (numsTo (numV S key) vs k).length := by rw [numsTo_length _ _ _ hk]; exact hkl
      have e0 : wr.cell? ⟨w1.heap.size, k, none⟩ = some (.int .i64 ((numsTo (numV S key) vs k)[k]'hlk)) := cell_at hnb (by simp [intCells, hlk])
      have e1 : wr.frozen? ⟨w1.heap.size, k, none⟩ = false := by simp [World.frozen?, hnb]
      have hset : (wr.setCell ⟨w1.heap.size, k, none⟩ (.int .i64 (numV S key (vs[k]'hkl)))).heap[w1.heap.size]? = some (.cells (intCells (numsTo (numV S key) vs (k + 1))) 3) := by
        rw [← numsTo_set _ _ _ hkl]
        simp only [World.setCell, Array.getElem?_modify]
        simp [hnb, intCells, List.map_set]
      have hother : ∀ j, j < w1.heap.size → (wr.setCell ⟨w1.heap.size, k, none⟩ (.int .i64 (numV S key (vs[k]'hkl)))).heap[j]? = w1.heap[j]? := fun j hj => (Below.heap_setCell _ _ _ _ (show j ≠ w1.heap.size by omega)).trans (hold j hj)
      have hbel : Below w.heap.size w (wr.setCell ⟨w1.heap.size, k, none⟩ (.int .i64 (numV S key (vs[k]'hkl)))) := hB.setCell (p := ⟨w1.heap.size, k, none⟩) hs1 _
      have hss : w1.heap.size < (wr.setCell ⟨w1.heap.size, k, none⟩ (.int .i64 (numV S key (vs[k]'hkl)))).heap.size := by simp [World.setCell]; omega
      have H1 := Lib.hid hset
      have H2 := Lib.hid hother
      have H3 := Lib.hid hbel
      have H4 := Lib.hid hss
      clear hset hother hbel hss hce hcc hcs hcl hsr hB hold hnb hb0 hB2 Dr hm hmf hat hin hV hv0 hmi hfi hig hq
      go_wp2_with fail
      go_roundw
      case rel => exact ⟨k + 1, by omega, by go_num, H3.out, H4.out, H2.out, H1.out⟩
      case measure => simp [intOf]; omega
    · obtain rfl : k = vs.length := by omega
      rw [numsTo_all] at hnb
      have hi2 := ints_sl (ok := fun j => w.heap.size ≤ j) hnb hs1 (by simp; omega)
      rw [List.length_map] at hi2
      have hb : Below w.heap.size w ((wr.alloc (.cells #[.slice Av vs.length cv] 61)).alloc (.cells #[.slice (some ⟨w1.heap.size, 0, none⟩) vs.length vs.length] 43)) := Below.alloc (hB.alloc hB.size _) (by have := hB.size; simp; omega) _
      have hv := HR.out _ _ ks _ hb HND.out HKS.out (by rw [HVS.out]; exact rowsAt_of hB.size (SlK.mono strOk hsr (fun j hj => hj.1)) hi2)
      clear hnb hi2 hsr hold hB hb0 hB2 hb
      go_wp2_with fail
      refine rows_k _ _ _ _ ⟨_, _, _, rfl⟩ ⟨_, _, _, rfl⟩ ?_
      go_wp2_with fail
      exact hv
end Go.Proofs.YtmenipaibjifiaaGreatDoor

namespace Go.Proofs.YtmenipaibjifiaaGreatDoor
open Go.RowKit

/-- The reference's lists and what is kept tell the same. -/
structure Tells (d : RDom) (S : St) : Prop where
  inv : Inv S
  ns : d.nodes.Pairwise (fun a b => a.slot < b.slot)
  ps : d.pods.Pairwise (fun a b => a.slot < b.slot)
  nodes : ∀ s, S.nodes s = (rNodeAt d s).map (·.labels)
  pods : ∀ p, S.guests p = (rPodAt d p).map (fun x => (x.labels, x.on))

theorem find_slot {α : Type} {f : α → Int} : ∀ {l : List α}, l.Pairwise (fun a b => f a < f b) → ∀ {x : α}, x ∈ l → l.find? (fun y => decide (f y = f x)) = some x
  | [], _, x, h => by cases h
  | y :: r, hp, x, h => by
    rw [List.pairwise_cons] at hp
    rcases List.mem_cons.1 h with e | e
    · subst e; simp
    · have := hp.1 x e
      rw [List.find?_cons_of_neg (by simp; omega)]
      exact find_slot hp.2 e
theorem find_slot_iff {α : Type} {f : α → Int} {l : List α} (hp : l.Pairwise (fun a b => f a < f b)) {s : Int} {x : α} : l.find? (fun y => decide (f y = s)) = some x ↔ x ∈ l ∧ f x = s := by
  constructor
  · intro h
    have h1 := List.find?_some h
    exact ⟨List.mem_of_find?_eq_some h, by simpa using h1⟩
  · rintro ⟨h, rfl⟩
    exact find_slot hp h
theorem rise_int {l m : List Int} (hl : l.Pairwise (· < ·)) (hm : m.Pairwise (· < ·)) (h : ∀ x, x ∈ l ↔ x ∈ m) : l = m :=
  rise_eq (r := (· < ·)) (fun a => Int.lt_irrefl a) (fun a b h1 h2 => by omega) hl hm h
theorem natI_mems_rise (n : Nat) (ws : List Nat) : (natI (mems n ws)).Pairwise (· < ·) := by
  unfold natI mems
  rw [List.pairwise_map]
  exact (List.pairwise_lt_range.filter _).imp fun h => by omega
theorem mem_natI_mems (n : Nat) (ws : List Nat) (x : Int) : x ∈ natI (mems n ws) ↔ ∃ i : Nat, i < n ∧ memW ws i = true ∧ x = i := by
  unfold natI mems
  simp only [List.mem_map, List.mem_filter, List.mem_range]
  constructor
  · rintro ⟨i, ⟨h1, h2⟩, rfl⟩; exact ⟨i, h1, h2, rfl⟩
  · rintro ⟨i, h1, h2, rfl⟩; exact ⟨i, ⟨h1, h2⟩, rfl⟩
theorem getB_iff {ls : List Lab} (h : KeysNodup ls) (k v : ByteArray) : getB ls k = some v ↔ (⟨k, v⟩ : Lab) ∈ ls := by
  induction ls with
  | nil => simp [getB]
  | cons l r ih =>
    unfold KeysNodup at h
    rw [List.map_cons, List.nodup_cons] at h
    have ih := ih h.2
    unfold getB at ih ⊢
    by_cases e : l.key = k
    · rw [List.find?_cons_of_pos (by simpa using e)]
      subst e
      simp only [Option.map_some, Option.some.injEq, List.mem_cons]
      constructor
      · intro e; left; cases l; simp at e ⊢; exact e.symm
      · rintro (e | e)
        · rw [← e]
        · exact absurd (List.mem_map_of_mem (f := Lab.key) e) h.1
    · rw [List.find?_cons_of_neg (by simpa using e), ih, List.mem_cons]
      constructor
      · exact .inr
      · rintro (e2 | e2)
        · subst e2; exact absurd rfl e
        · exact e2
theorem hasL_getB {ls : List Lab} (h : KeysNodup ls) (k v : ByteArray) : hasL ls (k, v) = decide (getB ls k = some v) := by
  unfold hasL
  simp only [getB_iff h]
section
variable {d : RDom} {S : St}
theorem Tells.mem_node (T : Tells d S) {x : RNode} : x ∈ d.nodes ↔ rNodeAt d x.slot = some x := by
  unfold rNodeAt
  rw [find_slot_iff T.ns]
  simp
theorem Tells.mem_pod (T : Tells d S) {x : RPod} : x ∈ d.pods ↔ rPodAt d x.slot = some x := by
  unfold rPodAt
  rw [find_slot_iff T.ps]
  simp
theorem Tells.nodeAt (T : Tells d S) {s : Int} {x : RNode} (h : rNodeAt d s = some x) : x ∈ d.nodes ∧ x.slot = s ∧ S.nodes s = some x.labels := by
  have h1 := (find_slot_iff T.ns).1 h
  exact ⟨h1.1, h1.2, by rw [T.nodes, h]; rfl⟩
theorem Tells.podAt (T : Tells d S) {s : Int} {x : RPod} (h : rPodAt d s = some x) : x ∈ d.pods ∧ x.slot = s ∧ S.guests s = some (x.labels, x.on) := by
  have h1 := (find_slot_iff T.ps).1 h
  exact ⟨h1.1, h1.2, by rw [T.pods, h]; rfl⟩
theorem Tells.node_of (T : Tells d S) {x : RNode} (h : x ∈ d.nodes) : S.nodes x.slot = some x.labels ∧ 0 ≤ x.slot ∧ x.slot < 512 ∧ KeysNodup x.labels := by
  have h1 := (T.nodeAt (T.mem_node.1 h)).2.2
  exact ⟨h1, T.inv.nb _ _ h1⟩
theorem Tells.pod_of (T : Tells d S) {x : RPod} (h : x ∈ d.pods) : S.guests x.slot = some (x.labels, x.on) ∧ 0 ≤ x.slot ∧ x.slot < 2048 ∧ KeysNodup x.labels ∧ (S.nodes x.on).isSome = true := by
  have h1 := (T.podAt (T.mem_pod.1 h)).2.2
  exact ⟨h1, T.inv.gb _ _ _ h1⟩
theorem Tells.nodeL_eq (T : Tells d S) (s : Int) : nodeL S s = ((rNodeAt d s).map (·.labels)).getD [] := by unfold nodeL; rw [T.nodes]
theorem Tells.nodes_len (T : Tells d S) : d.nodes.length ≤ 512 := by
  have h : (d.nodes.map fun x => x.slot.toNat).length ≤ (List.range 512).length := by
    refine List.Nodup.length_le_of_subset ?_ ?_
    · refine List.pairwise_map.2 ?_
      refine (List.Pairwise.and_mem.1 T.ns).imp ?_
      rintro a b ⟨ha, hb, h⟩
      have h1 := T.node_of ha
      have h2 := T.node_of hb
      omega
    · intro y hy
      obtain ⟨x, hx, rfl⟩ := List.mem_map.1 hy
      have := T.node_of hx
      rw [List.mem_range]; omega
  simpa using h
theorem Tells.pods_len (T : Tells d S) : d.pods.length ≤ 2048 := by
  have h : (d.pods.map fun x => x.slot.toNat).length ≤ (List.range 2048).length := by
    refine List.Nodup.length_le_of_subset ?_ ?_
    · refine List.pairwise_map.2 ?_
      refine (List.Pairwise.and_mem.1 T.ps).imp ?_
      rintro a b ⟨ha, hb, h⟩
      have h1 := T.pod_of ha
      have h2 := T.pod_of hb
      omega
    · intro y hy
      obtain ⟨x, hx, rfl⟩ := List.mem_map.1 hy
      have := T.pod_of hx
      rw [List.mem_range]; omega
  simpa using h
/-- T4: Of. -/
theorem Tells.of (T : Tells d S) (key : ByteArray) (s : Int) : getB (nodeL S s) key = rOf d key s := by
  rw [T.nodeL_eq]
  unfold rOf
  cases rNodeAt d s with
  | none => rfl
  | some x => rfl
theorem Tells.hasL (T : Tells d S) (key val : ByteArray) (s : Int) : hasL (nodeL S s) (key, val) = decide (rOf d key s = some val) := by
  rw [hasL_getB (T.inv.node s), T.of]
theorem Tells.rOf_node (T : Tells d S) {x : RNode} (h : x ∈ d.nodes) (key : ByteArray) : rOf d key x.slot = getB x.labels key := by
  unfold rOf
  rw [T.mem_node.1 h]; rfl
/-- What the sets of a domain hold. -/
theorem Tells.areaN (T : Tells d S) (key val : ByteArray) (i : Nat) (hi : i < 512) : memW (setA S (key, val)).1.2 i = decide (rOf d key i = some val) := by
  rw [← T.hasL]
  unfold setA
  cases e : S.areas (key, val) with
  | none =>
    have := (T.inv.a.no _ e).1 i hi
    simp only
    rw [memW_nil]
    exact this.symm
  | some p =>
    obtain ⟨x, y⟩ := p
    exact (T.inv.a.yes _ x y e).2.2.2.1 i hi
theorem Tells.areaP (T : Tells d S) (key val : ByteArray) (i : Nat) (hi : i < 2048) : memW (setA S (key, val)).2.2 i = VV S (key, val) i := by
  unfold setA
  cases e : S.areas (key, val) with
  | none =>
    have := (T.inv.a.no _ e).2 i hi
    simp only
    rw [memW_nil]
    exact this.symm
  | some p =>
    obtain ⟨x, y⟩ := p
    exact (T.inv.a.yes _ x y e).2.2.2.2 i hi
theorem Tells.vv (T : Tells d S) (key val : ByteArray) (p : Nat) : VV S (key, val) p = match rPodAt d p with | some x => decide (rOf d key x.on = some val) | none => false := by
  unfold VV podNode
  rw [T.pods]
  cases e : rPodAt d p with
  | none => rfl
  | some x => exact T.hasL key val x.on
theorem rNodesL_rise {l : List RNode} (h : l.Pairwise (fun a b => a.slot < b.slot)) (key val : ByteArray) : (rNodesL l key val).Pairwise (· < ·) := by
  unfold rNodesL
  rw [List.pairwise_map]
  exact h.filter _
theorem rPodsL_rise {l : List RPod} (h : l.Pairwise (fun a b => a.slot < b.slot)) (key val : ByteArray) : (rPodsL d l key val).Pairwise (· < ·) := by
  unfold rPodsL
  rw [List.pairwise_map]
  exact h.filter _
theorem Tells.mem_nodesL (T : Tells d S) (key val : ByteArray) (s : Int) : s ∈ rNodesL d.nodes key val ↔ rOf d key s = some val := by
  unfold rNodesL
  simp only [List.mem_map, List.mem_filter]
  constructor
  · rintro ⟨x, ⟨h1, h2⟩, rfl⟩
    rw [T.rOf_node h1]
    unfold hasV at h2
    simpa using h2
  · intro h
    have h0 := h
    unfold rOf at h
    obtain ⟨x, hx, h2⟩ := Option.bind_eq_some_iff.1 h
    obtain ⟨h3, h4, _⟩ := T.nodeAt hx
    exact ⟨x, ⟨h3, by unfold hasV; simpa using h2⟩, h4⟩
theorem Tells.rOf_lt (T : Tells d S) {key val : ByteArray} {s : Int} (h : rOf d key s = some val) : 0 ≤ s ∧ s < 512 := by
  unfold rOf at h
  obtain ⟨x, hx, h2⟩ := Option.bind_eq_some_iff.1 h
  obtain ⟨h3, h4, _⟩ := T.nodeAt hx
  have := T.node_of h3
  omega
theorem Tells.mem_podsL (T : Tells d S) (key val : ByteArray) (s : Int) : s ∈ rPodsL d d.pods key val ↔ 0 ≤ s ∧ s < 2048 ∧ VV S (key, val) s.toNat = true := by
  unfold rPodsL
  simp only [List.mem_map, List.mem_filter]
  constructor
  · rintro ⟨x, ⟨h1, h2⟩, rfl⟩
    have h3 := T.pod_of h1
    refine ⟨h3.2.1, h3.2.2.1, ?_⟩
    rw [T.vv, show ((x.slot.toNat : Nat) : Int) = x.slot by omega, T.mem_pod.1 h1]
    exact h2
  · rintro ⟨h1, h2, h3⟩
    rw [T.vv, show ((s.toNat : Nat) : Int) = s by omega] at h3
    cases e : rPodAt d s with
    | none => rw [e] at h3; cases h3
    | some x =>
      rw [e] at h3
      obtain ⟨h4, h5, _⟩ := T.podAt e
      exact ⟨x, ⟨h4, h3⟩, h5⟩
/-- T5: Nodes. -/
theorem Tells.nodesQ (T : Tells d S) (key val : ByteArray) {ws : List Nat} (h : ∀ i, i < 512 → memW ws i = memW (setA S (key, val)).1.2 i) : natI (mems 512 ws) = rNodesL d.nodes key val := by
  refine rise_int (natI_mems_rise _ _) (rNodesL_rise T.ns _ _) fun x => ?_
  rw [mem_natI_mems, T.mem_nodesL]
  constructor
  · rintro ⟨i, h1, h2, rfl⟩
    rw [h i h1, T.areaN key val i h1] at h2
    simpa using h2
  · intro hx
    have := T.rOf_lt hx
    refine ⟨x.toNat, by omega, ?_, by omega⟩
    rw [h _ (by omega), T.areaN key val _ (by omega), show ((x.toNat : Nat) : Int) = x by omega]
    simpa using hx
/-- T6: Pods. -/
theorem Tells.podsQ (T : Tells d S) (key val : ByteArray) {ws : List Nat} (h : ∀ i, i < 2048 → memW ws i = memW (setA S (key, val)).2.2 i) : natI (mems 2048 ws) = rPodsL d d.pods key val := by
  refine rise_int (natI_mems_rise _ _) (rPodsL_rise T.ps _ _) fun x => ?_
  rw [mem_natI_mems, T.mem_podsL]
  constructor
  · rintro ⟨i, h1, h2, rfl⟩
    rw [h i h1, T.areaP key val i h1] at h2
    refine ⟨by omega, by omega, ?_⟩
    simpa using h2
  · rintro ⟨h1, h2, h3⟩
    refine ⟨x.toNat, by omega, ?_, by omega⟩
    rw [h _ (by omega), T.areaP key val _ (by omega)]
    exact h3
/-- What counts in a list that rises. -/
theorem cnt_length {n : Nat} {p : Nat → Bool} {l : List Int} (hl : l.Pairwise (· < ·)) (hm : ∀ x : Int, x ∈ l ↔ 0 ≤ x ∧ x < n ∧ p x.toNat = true) : cnt n p = l.length := by
  unfold cnt
  have : ((List.range n).filter p).map (fun (i : Nat) => (i : Int)) = l := by
    refine rise_int ?_ hl fun x => ?_
    · rw [List.pairwise_map]
      exact (List.pairwise_lt_range.filter _).imp fun h => by omega
    · rw [hm]
      simp only [List.mem_map, List.mem_filter, List.mem_range]
      constructor
      · rintro ⟨i, ⟨h1, h2⟩, rfl⟩
        exact ⟨by omega, by omega, by simpa using h2⟩
      · rintro ⟨h1, h2, h3⟩
        exact ⟨x.toNat, ⟨by omega, h3⟩, by omega⟩
  rw [← this, List.length_map]
end
end Go.Proofs.YtmenipaibjifiaaGreatDoor

namespace Go.Proofs.YtmenipaibjifiaaGreatDoor
open Go.RowKit

def rKeysL (d : RDom) : List ByteArray := putAll [] (d.nodes.flatMap (fun x => x.labels.map Lab.key))
def rValL (d : RDom) (key : ByteArray) : List ByteArray := putAll [] (d.nodes.filterMap (fun x => getB x.labels key))
def rRowV (d : RDom) (key v : ByteArray) : RRow := ⟨v, (rNodesL d.nodes key v).length⟩
def rValuesL (d : RDom) (key : ByteArray) : List RRow := (rValL d key).map (rRowV d key)
def podHas (d : RDom) (pk pv : ByteArray) (s : Int) : Bool := decide ((rPodAt d s).bind (fun x => getB x.labels pk) = some pv)
def rCountN (d : RDom) (key val pk pv : ByteArray) : Nat := ((rPodsL d d.pods key val).filter (podHas d pk pv)).length
def isIn (pods : List Int) (s : Int) : Bool := pods.any (fun x => decide (x = s))
def rNum (d : RDom) (key : ByteArray) (pods : List Int) (v : ByteArray) : Nat := ((rPodsL d d.pods key v).filter (isIn pods)).length
def rTallyL (d : RDom) (key : ByteArray) (pods : List Int) : List RRow := (rValuesL d key).map (fun r => ⟨r.value, rNum d key pods r.value⟩)
def rankRow (rows : List RRow) (key : ByteArray) (c n : Int) (x : RNode) : List Int := match getB x.labels key with
  | none => []
  | some v => (rows.filter (fun r => decide (r.value = v) && standsB r.n c n)).map (fun _ => x.slot)
def rRankedL (d : RDom) (key : ByteArray) (pods : List Int) (c n : Int) : List Int := d.nodes.flatMap (rankRow (rTallyL d key pods) key c n)
theorem rTallyL_eq (d : RDom) (key : ByteArray) (pods : List Int) : rTallyL d key pods = (rValL d key).map (fun v => ⟨v, rNum d key pods v⟩) := by
  unfold rTallyL rValuesL
  rw [List.map_map]; rfl
end Go.Proofs.YtmenipaibjifiaaGreatDoor

namespace Go.Proofs.YtmenipaibjifiaaGreatDoor
open Go.RowKit Go.BigFrame

/-- The lists are as small as a Domains' are. -/
structure Sized (d : RDom) : Prop where
  n : d.nodes.length ≤ 512
  p : d.pods.length ≤ 2048
  nl : ∀ x ∈ d.nodes, x.labels.length ≤ 32
  pl : ∀ x ∈ d.pods, x.labels.length ≤ 32
theorem putB_length (s : ByteArray) : ∀ l : List ByteArray, (putB l s).length ≤ l.length + 1
  | [] => by simp [putB]
  | x :: r => by
    have := putB_length s r
    unfold putB
    split
    · simp
    · split <;> simp <;> omega
theorem putAll_length : ∀ (r l : List ByteArray), (putAll l r).length ≤ l.length + r.length
  | [], l => by simp [putAll]
  | s :: r, l => by
    have h1 := putAll_length r (putB l s)
    have h2 := putB_length s l
    show (putAll (putB l s) r).length ≤ _
    simp only [List.length_cons]
    omega
theorem putAll_snoc (l r : List ByteArray) (s : ByteArray) : putAll l (r ++ [s]) = putB (putAll l r) s := by
  unfold putAll
  rw [List.foldl_append]; rfl
theorem putAll_append (l r s : List ByteArray) : putAll l (r ++ s) = putAll (putAll l r) s := by
  unfold putAll
  rw [List.foldl_append]
def keysTo (d : RDom) (k : Nat) : List ByteArray := putAll [] ((d.nodes.take k).flatMap (fun x => x.labels.map Lab.key))
def keysIn (d : RDom) (k : Nat) (ls : List Lab) (j : Nat) : List ByteArray := putAll (keysTo d k) ((ls.take j).map Lab.key)
theorem keysIn_all (d : RDom) {k : Nat} (hk : k < d.nodes.length) : keysIn d k (d.nodes[k]'hk).labels (d.nodes[k]'hk).labels.length = keysTo d (k + 1) := by
  unfold keysIn keysTo
  rw [List.take_length, ← putAll_append, List.take_succ_eq_append_getElem hk, List.flatMap_append]
  simp
theorem keysIn_snoc (d : RDom) (k : Nat) (ls : List Lab) {j : Nat} (hj : j < ls.length) : keysIn d k ls (j + 1) = putB (keysIn d k ls j) (ls[j]'hj).key := by
  unfold keysIn
  rw [List.take_succ_eq_append_getElem hj, List.map_append]
  exact putAll_snoc _ _ _
theorem flat_len' {α β : Type} (f : α → List β) (k : Nat) : ∀ l : List α, (∀ x ∈ l, (f x).length ≤ k) → (l.flatMap f).length ≤ l.length * k
  | [], _ => by simp
  | a :: r, h => by
    rw [List.flatMap_cons, List.length_append, List.length_cons, Nat.add_mul]
    have h1 := h a List.mem_cons_self
    have h2 := flat_len' f k r (fun x hx => h x (List.mem_cons_of_mem _ hx))
    omega
theorem keysTo_length {d : RDom} (Z : Sized d) (k : Nat) : (keysTo d k).length ≤ 16384 := by
  have h1 := putAll_length ((d.nodes.take k).flatMap (fun x => x.labels.map Lab.key)) []
  have h2 := flat_len' (fun x : RNode => x.labels.map Lab.key) 32 (d.nodes.take k) (fun x hx => by rw [List.length_map]; exact Z.nl x (List.mem_of_mem_take hx))
  have h3 := Z.n
  rw [List.length_take] at h2
  unfold keysTo
  simp only [List.length_nil] at h1
  omega
theorem keysIn_length {d : RDom} (Z : Sized d) (k : Nat) (ls : List Lab) (h : ls.length ≤ 32) (j : Nat) : (keysIn d k ls j).length ≤ 16416 := by
  have h1 := putAll_length ((ls.take j).map Lab.key) (keysTo d k)
  have h2 := keysTo_length Z k
  rw [List.length_map, List.length_take] at h1
  unfold keysIn
  omega
set_option maxRecDepth 100000 in
set_option maxHeartbeats 4000000 in
theorem rkeys_k (R : Ending → World → Prop) (w : World) (ok : Nat → Prop) (d : RDom) (cs : List Value) (hok : ∀ k, ok k → k < w.heap.size) (hd : rdomK w ok d cs) (Z : Sized d)
    (hR : ∀ v' w', Below w.heap.size w w' → SlK strsK 1 w' (fun k => w.heap.size ≤ k) v' (rKeysL d) → R (.returned v') w') :
    Calls Tryz.prog 62 #[.agg cs.toArray] w R := by
  obtain ⟨vn, vp, rfl, hn, hp⟩ := hd
  have hB : Below w.heap.size w (w.alloc (.cells #[vn, vp] 29)) := Below.alloc (Below.refl _ _) (Nat.le_refl _) _
  have q0 : (w.alloc (.cells #[vn, vp] 29)).cell? ⟨w.heap.size, 0, none⟩ = some vn := cell_new rfl
  have HR := Lib.hid hR
  have HN := Lib.hid (hn.below rnodeOk hB hok)
  obtain ⟨A, c, e, hlc, _⟩ := hn.form
  subst e
  obtain ⟨A2, c2, e2, hlc2, _⟩ := hp.form
  subst e2
  have HOK := Lib.hid (show ∀ k, ok k → k < (w.alloc (.cells #[.slice A d.nodes.length c, .slice A2 d.pods.length c2] 29)).heap.size from fun k h => by have := hok k h; simp; omega)
  have HZ := Lib.hid Z
  have hzn := Z.n
  clear hR hn hp hok Z
  go_enter Tryz.func62, Tryz.ntmps62
  go_wp2_with fail
  generalize hW0 : w.alloc (.cells #[.slice A d.nodes.length c, .slice A2 d.pods.length c2] 29) = w0 at *
  clear hW0
  go_loopw [3, 4] (fun v i wr => ∃ k : Nat, k ≤ d.nodes.length ∧ i = .int .i64 k ∧ Below w0.heap.size w0 wr ∧ SlK strsK 1 wr (fun j => w0.heap.size ≤ j ∧ j < wr.heap.size) v (keysTo d k)) (fun _ i _ => d.nodes.length - (intOf i).toNat)
  case atStart => exact ⟨0, Nat.zero_le _, rfl, Below.refl _ _, SlK.nil⟩
  case round =>
    obtain ⟨k, hk, rfl, hBr, hO⟩ := hrel
    have q0' := (Mod.of_below hBr).cell' q0 (fun h => h)
    have hsr := hBr.size
    by_cases hkl : k < d.nodes.length
    · have hn2 := HN.out.below rnodeOk hBr HOK.out
      obtain ⟨b, off, c', he, _, _, hbk, hbl, hce⟩ := hn2.addr (by omega)
      simp only [Value.slice.injEq] at he
      obtain ⟨rfl, -, rfl⟩ := he
      obtain ⟨v1, c0, c1, hv1⟩ := rnode_cells hce k hkl
      have hxl : (d.nodes[k]'hkl).labels.length ≤ 32 := HZ.out.nl _ (List.getElem_mem hkl)
      have hall := keysIn_all d hkl
      obtain ⟨ls, hls⟩ : ∃ ls, (d.nodes[k]'hkl).labels = ls := ⟨_, rfl⟩
      rw [hls] at hv1 hxl hall
      have HALL := Lib.hid hall
      obtain ⟨A1, c1', e1, hl1, _⟩ := hv1.form
      subst e1
      have HV1 := Lib.hid hv1
      have HBR := Lib.hid hBr
      have HO := Lib.hid hO
      clear hce hn2 hv1 hBr hO hls hall
      go_wp2_with fail
      obtain ⟨w5, e5⟩ : ∃ W, W = wr := ⟨_, rfl⟩
      subst e5
      go_loopw [3, 5] (fun v i wr => ∃ j : Nat, j ≤ ls.length ∧ i = .int .i64 j ∧ Below w5.heap.size w5 wr ∧ SlK strsK 1 wr (fun j => w0.heap.size ≤ j ∧ j < wr.heap.size) v (keysIn d k ls j)) (fun _ i _ => ls.length - (intOf i).toNat)
      case atStart => exact ⟨0, Nat.zero_le _, rfl, Below.refl _ _, HO.out⟩
      case round =>
        obtain ⟨j, hj, rfl, hBt, hOt⟩ := hrel
        have hst := hBt.size
        have z0 := (Mod.of_below hBt).cell' q0' (fun h => h)
        have z1 := (Mod.of_below hBt).cell' c1 (fun h => h)
        have hkl2 := keysIn_length HZ.out k ls hxl j
        by_cases hjl : j < ls.length
        · have hv2 := HV1.out.below labOk hBt (fun i hi => Nat.lt_of_lt_of_le (HOK.out i hi) hsr)
          obtain ⟨b2, off2, c2', he2, _, _, hbk2, hbl2, hce2⟩ := hv2.addr (by omega)
          simp only [Value.slice.injEq] at he2
          obtain ⟨rfl, -, rfl⟩ := he2
          obtain ⟨d0, d1⟩ := lab_cells hce2 j hjl
          have hsn := keysIn_snoc d k ls hjl
          obtain ⟨ky, hky⟩ : ∃ ky, (ls[j]'hjl).key = ky := ⟨_, rfl⟩
          rw [hky] at d0 hsn
          have HSN := Lib.hid hsn
          have HBT := Lib.hid hBt
          have HOT := Lib.hid hOt
          clear hce2 hv2 hsn hBt hOt hky d1
          go_wp2_with fail
          refine put_k _ _ (fun i => w0.heap.size ≤ i ∧ i < wr.heap.size) (keysIn d k ls j) ky _ (fun i hi => hi.2) HOT.out (by omega) ?_
          intro v4 w4 g4 hs4
          have HB4 := Lib.hid (HBT.out.trans (g4.mono HBT.out.size))
          have HS4 := Lib.hid (SlK.mono strOk (SlK.bnd strOk hs4) (fun i hi => (⟨hi.1.elim (fun h => h.1) (fun h => by omega), hi.2⟩ : w0.heap.size ≤ i ∧ i < w4.heap.size)))
          clear g4 hs4
          go_wp2_with fail
          go_roundw
          case rel => exact ⟨j + 1, by omega, by go_num, HB4.out, by rw [HSN.out]; exact HS4.out⟩
          case measure => simp [intOf]; omega
        · obtain rfl : j = ls.length := by omega
          rw [HALL.out] at hOt
          have HBT := Lib.hid (HBR.out.trans (hBt.mono hsr))
          have HOT := Lib.hid hOt
          clear hBt hOt
          go_wp2_with fail
          go_roundw
          case rel => exact ⟨k + 1, by omega, by go_num, HBT.out, HOT.out⟩
          case measure => simp [intOf]; omega
    · obtain rfl : k = d.nodes.length := by omega
      have hv := HR.out u3 wr (hB.trans (hBr.mono hB.size)) (SlK.mono strOk (by unfold rKeysL; unfold keysTo at hO; rwa [List.take_length] at hO) (fun j (hj : w0.heap.size ≤ j ∧ j < wr.heap.size) => Nat.le_trans hB.size hj.1))
      clear hO hBr
      go_wp2_with fail
      exact hv
def valTo (d : RDom) (key : ByteArray) (k : Nat) : List ByteArray := putAll [] ((d.nodes.take k).filterMap (fun x => getB x.labels key))
theorem valTo_snoc (d : RDom) (key : ByteArray) {k : Nat} (hk : k < d.nodes.length) : valTo d key (k + 1) = match getB (d.nodes[k]'hk).labels key with | some v => putB (valTo d key k) v | none => valTo d key k := by
  unfold valTo
  rw [List.take_succ_eq_append_getElem hk, List.filterMap_append]
  cases h : getB (d.nodes[k]'hk).labels key with
  | none => simp [h]
  | some v =>
    simp only [List.filterMap_cons, h, List.filterMap_nil]
    exact putAll_snoc _ _ _
theorem valTo_length {d : RDom} (Z : Sized d) (key : ByteArray) (k : Nat) : (valTo d key k).length ≤ 512 := by
  have h1 := putAll_length ((d.nodes.take k).filterMap (fun x => getB x.labels key)) []
  have h2 := List.length_filterMap_le (fun x : RNode => getB x.labels key) (d.nodes.take k)
  have h3 := Z.n
  rw [List.length_take] at h2
  unfold valTo
  simp only [List.length_nil] at h1
  omega
theorem infoRRow : (Tryz.prog.info? 273).map (fun i => (i.zero, i.size, i.bytes)) = some (some (.agg #[.string ⟨#[]⟩, .int .i64 0]), 2, 24) := by kernel_rfl
set_option maxRecDepth 100000 in
set_option maxHeartbeats 4000000 in
theorem rvalues_k (R : Ending → World → Prop) (w : World) (ok : Nat → Prop) (d : RDom) (key : ByteArray) (cs : List Value) (hok : ∀ k, ok k → k < w.heap.size) (hd : rdomK w ok d cs) (Z : Sized d)
    (hR : ∀ v' w', Below w.heap.size w w' → SlK rrowK 2 w' (fun k => w.heap.size ≤ k) v' (rValuesL d key) → R (.returned v') w') :
    Calls Tryz.prog 64 #[.agg cs.toArray, .string key] w R := by
  obtain ⟨vn, vp, rfl, hn, hp⟩ := hd
  have hB : Below w.heap.size w (w.alloc (.cells #[vn, vp] 29)) := Below.alloc (Below.refl _ _) (Nat.le_refl _) _
  have q0 : (w.alloc (.cells #[vn, vp] 29)).cell? ⟨w.heap.size, 0, none⟩ = some vn := cell_new rfl
  have q1 : (w.alloc (.cells #[vn, vp] 29)).cell? ⟨w.heap.size, 1, none⟩ = some vp := cell_new rfl
  have HR := Lib.hid hR
  have HN := Lib.hid (hn.below rnodeOk hB hok)
  have HP := Lib.hid (hp.below rpodOk hB hok)
  obtain ⟨A, c, e, hlc, _⟩ := hn.form
  subst e
  obtain ⟨A2, c2, e2, hlc2, _⟩ := hp.form
  subst e2
  have HOK := Lib.hid (show ∀ k, ok k → k < (w.alloc (.cells #[.slice A d.nodes.length c, .slice A2 d.pods.length c2] 29)).heap.size from fun k h => by have := hok k h; simp; omega)
  have HZ := Lib.hid Z
  have hzn := Z.n
  have hzp := Z.p
  clear hR hn hp hok Z
  go_enter Tryz.func64, Tryz.ntmps64
  go_upto_block 0 with fail
  generalize hW0 : w.alloc (.cells #[.slice A d.nodes.length c, .slice A2 d.pods.length c2] 29) = w0 at *
  clear hW0
  go_cut [5] (fun v wr => Below w0.heap.size w0 wr ∧ SlK strsK 1 wr (fun j => w0.heap.size ≤ j ∧ j < wr.heap.size) v (rValL d key))
  case first =>
    go_wp2
    go_loopw [5, 6] (fun v i wr => ∃ k : Nat, k ≤ d.nodes.length ∧ i = .int .i64 k ∧ Below w0.heap.size w0 wr ∧ SlK strsK 1 wr (fun j => w0.heap.size ≤ j ∧ j < wr.heap.size) v (valTo d key k)) (fun _ i _ => d.nodes.length - (intOf i).toNat)
    case atStart => exact ⟨0, Nat.zero_le _, rfl, Below.refl _ _, SlK.nil⟩
    case round =>
      obtain ⟨k, hk, rfl, hBr, hO⟩ := hrel
      have q0' := (Mod.of_below hBr).cell' q0 (fun h => h)
      have hsr := hBr.size
      by_cases hkl : k < d.nodes.length
      · have hn2 := HN.out.below rnodeOk hBr HOK.out
        obtain ⟨b, off, c', he, _, _, hbk, hbl, hce⟩ := hn2.addr (by omega)
        simp only [Value.slice.injEq] at he
        obtain ⟨rfl, -, rfl⟩ := he
        obtain ⟨v1, c0, c1, hv1⟩ := rnode_cells hce k hkl
        have hxl : (d.nodes[k]'hkl).labels.length ≤ 32 := HZ.out.nl _ (List.getElem_mem hkl)
        have hsn := valTo_snoc d key hkl
        have hvl := valTo_length HZ.out key k
        obtain ⟨ls, hls⟩ : ∃ ls, (d.nodes[k]'hkl).labels = ls := ⟨_, rfl⟩
        rw [hls] at hv1 hxl hsn
        have HV1 := Lib.hid hv1
        have HBR := Lib.hid hBr
        have HO := Lib.hid hO
        cases hg : getB ls key with
        | none =>
          have HG := Lib.hid (show (getB ls key).getD ⟨#[]⟩ = ⟨#[]⟩ ∧ (getB ls key).isSome = false by rw [hg]; exact ⟨rfl, rfl⟩)
          rw [hg] at hsn
          have HSN := Lib.hid hsn
          clear hce hn2 hv1 hBr hO hls hsn hg
          go_wp2_with fail
          refine rget_t _ _ ok v1 ls key _ _ HG.out (fun j hj => Nat.lt_of_lt_of_le (HOK.out j hj) hsr) HV1.out (by omega) ?_
          intro w3 g3
          have HB3 := Lib.hid (HBR.out.trans (g3.mono hsr))
          have HO3 := Lib.hid (SlK.mono strOk (SlK.bnd strOk (HO.out.below strOk g3 (fun i hi => hi.2))) (fun i hi => (⟨hi.1.1, hi.2⟩ : w0.heap.size ≤ i ∧ i < w3.heap.size)))
          clear g3
          go_wp2_with fail
          go_roundw
          case rel => exact ⟨k + 1, by omega, by go_num, HB3.out, by rw [HSN.out]; exact HO3.out⟩
          case measure => simp [intOf]; omega
        | some u =>
          have HG := Lib.hid (show (getB ls key).getD ⟨#[]⟩ = u ∧ (getB ls key).isSome = true by rw [hg]; exact ⟨rfl, rfl⟩)
          rw [hg] at hsn
          have HSN := Lib.hid hsn
          clear hce hn2 hv1 hBr hO hls hsn hg
          go_wp2_with fail
          refine rget_t _ _ ok v1 ls key _ _ HG.out (fun j hj => Nat.lt_of_lt_of_le (HOK.out j hj) hsr) HV1.out (by omega) ?_
          intro w3 g3
          have hs3 := g3.size
          have HB3 := Lib.hid (HBR.out.trans (g3.mono hsr))
          have HO3 := Lib.hid (SlK.mono strOk (SlK.bnd strOk (HO.out.below strOk g3 (fun i hi => hi.2))) (fun i hi => (⟨hi.1.1, hi.2⟩ : w0.heap.size ≤ i ∧ i < w3.heap.size)))
          clear g3
          go_wp2_with fail
          refine put_k _ _ (fun i => w0.heap.size ≤ i ∧ i < w3.heap.size) (valTo d key k) u _ (fun i hi => hi.2) HO3.out (by omega) ?_
          intro v4 w4 g4 hs4
          have HB4 := Lib.hid (HB3.out.trans (g4.mono HB3.out.size))
          have HS4 := Lib.hid (SlK.mono strOk (SlK.bnd strOk hs4) (fun i hi => (⟨hi.1.elim (fun h => h.1) (fun h => by omega), hi.2⟩ : w0.heap.size ≤ i ∧ i < w4.heap.size)))
          clear g4 hs4
          go_wp2_with fail
          go_roundw
          case rel => exact ⟨k + 1, by omega, by go_num, HB4.out, by rw [HSN.out]; exact HS4.out⟩
          case measure => simp [intOf]; omega
      · obtain rfl : k = d.nodes.length := by omega
        have hv : SlK strsK 1 wr (fun j => w0.heap.size ≤ j ∧ j < wr.heap.size) u5 (rValL d key) := by unfold rValL; unfold valTo at hO; rwa [List.take_length] at hO
        clear hO
        go_wp2
        go_meet
        exact ⟨hBr, hv⟩
  case rest =>
    obtain ⟨hB1, hV⟩ := hcut
    have hvl : (rValL d key).length ≤ 512 := by have := valTo_length HZ.out key d.nodes.length; unfold valTo at this; rwa [List.take_length] at this
    obtain ⟨vs, hvs⟩ : ∃ vs, rValL d key = vs := ⟨_, rfl⟩
    rw [hvs] at hV hvl
    have HVS := Lib.hid hvs
    obtain ⟨A3, c3, e3, hl3, _⟩ := hV.form
    subst e3
    have q0w := (Mod.of_below hB1).cell' q0 (fun h => h)
    have q1w := (Mod.of_below hB1).cell' q1 (fun h => h)
    have HB1 := Lib.hid hB1
    have HV := Lib.hid hV
    have hs1 := hB1.size
    clear hvs hB1 hV q0 q1
    go_wp2_with fail
    go_loopw [9, 10] (fun v i wr => ∃ k : Nat, k ≤ vs.length ∧ i = .int .i64 k ∧ Below wc.heap.size wc wr ∧ OwnK rrowK 2 273 wr wc.heap.size (fun _ => False) v ((vs.take k).map (rRowV d key))) (fun _ i _ => vs.length - (intOf i).toNat)
    case atStart => exact ⟨0, Nat.zero_le _, rfl, Below.refl _ _, .nil (fun _ h => h.elim)⟩
    case round =>
      obtain ⟨k, hk, rfl, hBr, hO⟩ := hrel
      have hsr := hBr.size
      by_cases hkl : k < vs.length
      · have hv2 := HV.out.below strOk hBr (fun i hi => hi.2)
        obtain ⟨b, off, c', he, _, _, hbk, hbl, hce⟩ := hv2.addr (by omega)
        simp only [Value.slice.injEq] at he
        obtain ⟨rfl, -, rfl⟩ := he
        obtain ⟨cs1, hc1, _, hc2⟩ := hce k hkl
        cases hc1
        have c0 : wr.cell? ⟨b, off + k, none⟩ = some (.string (vs[k]'hkl)) := by simpa using hc2 0 _ rfl
        have hsn : (vs.take (k + 1)).map (rRowV d key) = (vs.take k).map (rRowV d key) ++ [rRowV d key (vs[k]'hkl)] := by rw [List.take_succ_eq_append_getElem hkl, List.map_append]; rfl
        obtain ⟨u, hu⟩ : ∃ u, vs[k]'hkl = u := ⟨_, rfl⟩
        rw [hu] at c0 hsn
        have q0r := (Mod.of_below hBr).cell' q0w (fun h => h)
        have q1r := (Mod.of_below hBr).cell' q1w (fun h => h)
        have HSN := Lib.hid hsn
        have HBR := Lib.hid hBr
        have HO := Lib.hid hO
        have hB1r := HB1.out.trans (hBr.mono hs1)
        have HRD := Lib.hid (show rdomK wr ok d [.slice A d.nodes.length c, .slice A2 d.pods.length c2] from ⟨_, _, rfl, HN.out.below rnodeOk hB1r HOK.out, HP.out.below rpodOk hB1r HOK.out⟩)
        have HOKr := Lib.hid (show ∀ j, ok j → j < wr.heap.size from fun j hj => Nat.lt_of_lt_of_le (HOK.out j hj) hB1r.size)
        have HK := Lib.hid (show ∀ w', Below wr.heap.size wr w' → Below wr.heap.size wr w' ∧ w'.cell? ⟨w.heap.size, 0, none⟩ = some (.slice A d.nodes.length c) ∧ w'.cell? ⟨w.heap.size, 1, none⟩ = some (.slice A2 d.pods.length c2) ∧ w'.cell? ⟨b, off + k, none⟩ = some (.string u) from
          fun w' hw => ⟨hw, (Mod.of_below hw).cell' q0r (fun h => h), (Mod.of_below hw).cell' q1r (fun h => h), (Mod.of_below hw).cell' c0 (fun h => h)⟩)
        clear hce hc2 hv2 hsn hBr hO hu hB1r
        go_wp2_with fail
        go_region_held3 (fun w' => Below wr.heap.size wr w' ∧ w'.cell? ⟨w.heap.size, 0, none⟩ = some (.slice A d.nodes.length c) ∧ w'.cell? ⟨w.heap.size, 1, none⟩ = some (.slice A2 d.pods.length c2) ∧ w'.cell? ⟨b, off + k, none⟩ = some (.string u))
          (first
          | exact HK.out _ (Below.refl _ wr).drew
          | exact HK.out _ y1)
          (first
          | (go_at_call 147; refine rnodes_k _ _ ok d key u [_, _] HOKr.out HRD.out (by omega) (fun x hx => by have := HZ.out.nl x hx; omega) ?_; intro vq w3 g3 hq3
             have y1 : Below wr.heap.size wr w3 := Below.of_drew g3))
        all_goals (
          obtain ⟨A5, c5, e5, _, _⟩ := hq3.form
          subst e5
          have c0' := (Mod.of_below y1).cell' c0 (fun h => h)
          have hqn : (rNodesL d.nodes key u).length ≤ 512 := Nat.le_trans (rNodesL_le _ _ _) hzn
          have hB3 := HBR.out.trans (y1.mono hsr)
          have hO3 := HO.out.move rrowOk (w' := w3) (fun j hj _ => y1.block j hj) y1.size
          have HB3 := Lib.hid hB3
          have hlen : ((vs.take k).map (rRowV d key)).length = k := by rw [List.length_map, List.length_take]; omega
          clear g3 hq3 y1 hB3
          go_wp2_with (at_builtin; refine append_k rrowOk rfl _ _ 146 273 (.agg #[.string ⟨#[]⟩, .int .i64 0]) 24 wc.heap.size (fun _ => False) rfl Tryz.underlying146 infoRRow rfl (by decide) (by decide) u9 ((vs.take k).map (rRowV d key)) (rRowV d key u) #[.string u, .int .i64 ((rNodesL d.nodes key u).length : Nat)] rfl rfl ?d1 hO3 ?d2 HB3.out.size ?d3 ?_)
          case d1 => simp [Value.oneCell']
          case d2 => rfl
          case d3 => rw [hlen]; omega
          intro v4 w4 hO4 hg4 _
          have hB4 := HB3.out.grown hg4 HB3.out.size (fun k h => (hO3.own k h).1)
          have HO4 := Lib.hid hO4
          have HB4 := Lib.hid hB4
          clear hO4 hg4 hB4 hO3 hlen
          go_wp2_with fail
          go_roundw
          case rel => exact ⟨k + 1, by omega, by go_num, HB4.out, by rw [HSN.out, List.map_take]; exact HO4.out⟩
          case measure => simp [intOf]; omega)
      · obtain rfl : k = vs.length := by omega
        rw [List.take_length] at hO
        have hv := HR.out u9 wr (hB.trans ((HB1.out.trans (hBr.mono hs1)).mono hB.size)) (by unfold rValuesL; rw [HVS.out]; exact SlK.mono rrowOk (hO.slk rrowOk) (fun j hj => hj.elim (fun h => h.elim) (fun h => Nat.le_trans hB.size (Nat.le_trans hs1 (hO.own j h).1))))
        clear hO hBr
        go_wp2_with fail
        exact hv
end Go.Proofs.YtmenipaibjifiaaGreatDoor
