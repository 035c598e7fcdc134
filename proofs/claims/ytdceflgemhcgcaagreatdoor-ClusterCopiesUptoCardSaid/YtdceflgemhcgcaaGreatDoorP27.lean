/-
quant: Add, Sub, Short of lists that are as Make answers them.
quant.Short of lists that are as Make answers them.
-/
import Derived.Test.YtdceflgemhcgcaaGreatDoorP15
import Derived.Test.YtdceflgemhcgcaaGreatDoorP16
set_option linter.unusedVariables false
set_option linter.unusedSimpArgs false
namespace Go.Proofs.YtdceflgemhcgcaaGreatDoor
open Go.RowKit Go.BigFrame

def addE (xs ys : List Itm) (n : ByteArray) : Itm := ⟨n, qget xs n + qget ys n⟩
def addI (xs ys : List Itm) : List Itm := (bothN xs ys).map (addE xs ys)
def subE (xs ys : List Itm) (n : ByteArray) : Itm := ⟨n, qget xs n - qget ys n⟩
def posI (x : Itm) : Bool := decide (0 < x.n)
def subI (xs ys : List Itm) : List Itm := ((bothN xs ys).map (subE xs ys)).filter posI
def shortE (cap used : List Itm) (x : Itm) : Int := if max 0 (qget cap x.name - qget used x.name) < x.n then 29 else 0
def shortI (need cap used : List Itm) : ByteArray × Int := match firstF (fun i => match need[i]? with | some x => shortE cap used x | none => 0) need.length with
  | some i => ((match need[i]? with | some x => x.name | none => ⟨#[]⟩), 29)
  | none => (⟨#[]⟩, 0)
theorem shortI_at {need cap used : List Itm} {k : Nat} (hk : k < need.length) (h : ∀ j (hj : j < need.length), j < k → shortE cap used (need[j]'hj) = 0) (he : shortE cap used (need[k]'hk) ≠ 0) : shortI need cap used = ((need[k]'hk).name, 29) := by
  unfold shortI
  rw [firstF_at hk (fun j hj => by simp only [List.getElem?_eq_getElem (show j < need.length by omega)]; exact h j (by omega) hj) (by simp only [List.getElem?_eq_getElem hk]; exact he)]
  simp only [List.getElem?_eq_getElem hk]
theorem shortI_none {need cap used : List Itm} (h : ∀ j (hj : j < need.length), shortE cap used (need[j]'hj) = 0) : shortI need cap used = (⟨#[]⟩, 0) := by
  unfold shortI
  rw [firstF_none (fun j hj => by simp only [List.getElem?_eq_getElem hj]; exact h j hj)]
theorem qget_range {xs : List Itm} (h : GoodI xs) (n : ByteArray) : 0 ≤ qget xs n ∧ qget xs n ≤ 9223372036854775807 := by
  unfold qget
  cases hf : xs.find? (fun x => decide (x.name = n)) with
  | none => simp
  | some x =>
    have := h.2.2 x (List.mem_of_find?_eq_some hf)
    simp only
    omega
theorem ints_sl {w : World} {T : TypeId} {xs : List Int} {cs : Array Value} (hc : cs.toList = xs.map (Value.int .i64)) (hl : xs.length ≤ maxLen) : SlK intsK 1 (w.alloc (.cells cs T)) (fun k => k = w.heap.size) (.slice (some ⟨w.heap.size, 0, none⟩) xs.length xs.length) xs := by
  refine ⟨_, _, rfl, Nat.le_refl _, hl, .inr ⟨w.heap.size, 0, rfl, rfl, by simp, fun j x hx => ⟨[.int .i64 x], rfl, rfl, fun i u hu => ?_⟩⟩⟩
  cases i with
  | zero =>
    simp at hu
    subst hu
    refine cell_at (heap_alloc_new w _) ?_
    rw [← Array.getElem?_toList, hc]
    simp [hx]
  | succ i => simp at hu
set_option maxRecDepth 100000 in
set_option maxHeartbeats 8000000 in
theorem qadd_k (R : Ending → World → Prop) (w : World) (ok : Nat → Prop) (vx vy : Value) (xs ys : List Itm) (hok : ∀ k, ok k → k < w.heap.size) (hx : SlK itmK 2 w ok vx xs) (gx : GoodI xs) (hy : SlK itmK 2 w ok vy ys) (gy : GoodI ys) (hln : (bothN xs ys).length ≤ 16) (hfit : ∀ n, qget xs n + qget ys n ≤ 9223372036854775807)
    (hR : ∀ v' w', Below w.heap.size w w' → SlK itmK 2 w' (fun k => w.heap.size ≤ k) v' (addI xs ys) → R (.returned (.tuple #[v', .string ⟨#[]⟩, .int .i64 0])) w') :
    Calls Tryz.prog 195 #[vx, vy] w R := by
  have HLN := Lib.hid hln
  have HFIT := Lib.hid hfit
  clear hln hfit
  obtain ⟨Ax, cx, rfl, lcx, _⟩ := hx.form
  have Hx := Lib.hid hx
  have Gx := Lib.hid gx
  have lex : xs.length ≤ 16 := gx.1
  clear hx gx
  obtain ⟨Ay, cy, rfl, lcy, _⟩ := hy.form
  have Hy := Lib.hid hy
  have Gy := Lib.hid gy
  have ley : ys.length ≤ 16 := gy.1
  clear hy gy
  have HR := Lib.hid hR
  have HOK := Lib.hid hok
  clear hR hok
  go_enter Tryz.func195, Tryz.ntmps195
  go_wp2_with fail
  refine qcheck_k _ _ ok _ xs (fun k hk => Nat.lt_of_lt_of_le (HOK.out k hk) (Below.refl w.heap.size w).size) (Hx.out.below itmOk (Below.refl w.heap.size w) HOK.out) Gx.out ?_
  intro w1 g1
  have B1 := Lib.hid ((Below.refl w.heap.size w).trans (g1.mono (Below.refl w.heap.size w).size))
  clear g1
  go_wp2_with fail
  refine qcheck_k _ _ ok _ ys (fun k hk => Nat.lt_of_lt_of_le (HOK.out k hk) B1.out.size) (Hy.out.below itmOk B1.out HOK.out) Gy.out ?_
  intro w2 g2
  have B2 := Lib.hid (B1.out.trans (g2.mono B1.out.size))
  clear g2
  go_wp2_with fail
  refine or_k _ _ (fun k => k = w2.heap.size) _ [0, 0] (fun k hk => by subst hk; simp) (ints_sl (w := w2) (xs := [0, 0]) (cs := #[.int .i64 0, .int .i64 0]) rfl (by simp [maxLen])) (by simp) (by simp) ?_
  intro w3 g3
  have B3 := Lib.hid ((B2.out.alloc B2.out.size (.cells #[.int .i64 0, .int .i64 0] 132)).trans (g3.mono (by have := B2.out.size; simp; omega)))
  clear g3
  go_wp2_with fail
  refine both_k _ _ ok _ _ xs ys (fun k hk => Nat.lt_of_lt_of_le (HOK.out k hk) B3.out.size) (Hx.out.below itmOk B3.out HOK.out) (Hy.out.below itmOk B3.out HOK.out) (by omega) (by omega) ?_
  intro vn w4 g4 hn
  have B4 := Lib.hid (B3.out.trans (g4.mono B3.out.size))
  obtain ⟨nm, hnm⟩ : ∃ nm, bothN xs ys = nm := ⟨_, rfl⟩
  rw [hnm] at hn
  have hnb := (hn.mono strOk (fun k hk => Nat.le_trans B3.out.size hk)).bnd strOk
  obtain ⟨An, cn, en, lcn, _⟩ := hnb.form
  subst en
  have HN := Lib.hid hnb
  have HNM := Lib.hid hnm
  clear g4 hn hnb
  obtain ⟨L, hL⟩ : ∃ L, nm.map (addE xs ys) = L := ⟨_, rfl⟩
  have HLL := Lib.hid hL
  have HLn := Lib.hid (show L.length = nm.length by rw [← hL, List.length_map])
  clear hL
  have h16 : nm.length ≤ 16 := by rw [← HNM.out]; exact HLN.out
  obtain ⟨i0, hi0, hzz⟩ := Option.map_eq_some_iff.1 infoItm
  simp only [Prod.mk.injEq] at hzz
  obtain ⟨hz0, hz1, hz2⟩ := hzz
  have hmk := run_make (P := Tryz.prog) w4 24 110 i0 _ Tryz.underlying24 hi0 hz0 .i64 .i64 0 (nm.length : Int) (by omega) (by omega) (by rw [hz2]; omega) (by omega)
  rw [hz1] at hmk
  simp only [Int.toNat_natCast, Int.toNat_zero] at hmk
  obtain ⟨w0, hw0⟩ : ∃ w0, w0 = w4.alloc (.cells (madeCells (Value.agg #[.string ⟨#[]⟩, .int .i64 0]).cells (nm.length * 2)) 110) := ⟨_, rfl⟩
  have HB0 := Lib.hid (show Below w.heap.size w w0 ∧ Below w4.heap.size w4 w0 by rw [hw0]; exact ⟨B4.out.alloc B4.out.size _, Below.alloc (Below.refl _ _) (Nat.le_refl _) _⟩)
  have HO0 := Lib.hid (show OwnK itmK 2 110 w0 w.heap.size (fun _ => False) (.slice (some ⟨w4.heap.size, 0, none⟩) 0 nm.length) ([] : List Itm) by rw [hw0]; exact OwnK.made (fun _ h => h.elim) B4.out.size (by simp [maxLen]; omega) (size_madeCells _ _))
  rw [← hw0] at hmk
  clear hi0 hz0 hz1 hz2 hw0
  have hgt : ¬ (16 : Int) < (nm.length : Int) := by omega
  go_upto_region 8 with fail
  clear hmk hgt hnm
  go_wp2_with fail
  go_loopw [9, 34] (fun out i wr => ∃ k : Nat, k ≤ nm.length ∧ i = .int .i64 k ∧ (Below w.heap.size w wr ∧ Below w4.heap.size w4 wr) ∧ OwnK itmK 2 110 wr w.heap.size (fun _ => False) out (L.take k) ∧ (∀ j, out.ownBlock = some j → w4.heap.size ≤ j)) (fun _ i _ => nm.length - (intOf i).toNat)
  case atStart => exact ⟨0, Nat.zero_le _, rfl, HB0.out, HO0.out, fun j h => by simp [Value.ownBlock] at h; omega⟩
  case round =>
    obtain ⟨k, hk, rfl, hB, hO, hob⟩ := hrel
    have HOB := Lib.hid hob
    have HB := Lib.hid hB
    have HO := Lib.hid hO
    clear hB hO hob
    by_cases hlt : k < nm.length
    · obtain ⟨b, off, c2, he, _, _, bk, bl, hce⟩ := (HN.out.below strOk (HB.out.2) (fun k hk => hk.2)).addr (by omega)
      simp only [Value.slice.injEq] at he
      obtain ⟨he, -, hec⟩ := he
      cases he
      cases hec
      obtain ⟨cs, hcs, _, hcc⟩ := hce k hlt
      cases hcs
      have y0 : wr.cell? ⟨b, off + k, none⟩ = some (.string (nm[k]'hlt)) := by have := hcc 0 _ rfl; simpa using this
      obtain ⟨s, hs⟩ : ∃ s, nm[k]'hlt = s := ⟨_, rfl⟩
      rw [hs] at y0
      have HS := Lib.hid hs
      clear hce hcc hs
      go_wp2_with fail
      have rx := qget_range Gx.out s
      have ry := qget_range Gy.out s
      obtain ⟨p, hp⟩ : ∃ p, qget xs s = p := ⟨_, rfl⟩
      obtain ⟨q, hq⟩ : ∃ q, qget ys s = q := ⟨_, rfl⟩
      have HP := Lib.hid hp
      have HQ := Lib.hid hq
      rw [hp] at rx
      rw [hq] at ry
      clear hp hq
      refine qget_k _ _ ok _ xs s (fun j hj => Nat.lt_of_lt_of_le (HOK.out j hj) HB.out.1.size) (Hx.out.below itmOk HB.out.1 HOK.out) (by omega) ?_
      intro wa ga
      rw [HP.out]
      have BA := Lib.hid (HB.out.1.trans (ga.mono HB.out.1.size))
      have BA2 := Lib.hid ga
      clear ga
      go_wp2_with fail
      refine qget_k _ _ ok _ ys s (fun j hj => Nat.lt_of_lt_of_le (HOK.out j hj) BA.out.size) (Hy.out.below itmOk BA.out HOK.out) (by omega) ?_
      intro wb gb
      rw [HQ.out]
      have BB := Lib.hid (BA.out.trans (gb.mono BA.out.size))
      have BB2 := Lib.hid (BA2.out.trans (gb.mono BA2.out.size))
      clear gb
      have HO2 := Lib.hid (HO.out.move itmOk (fun j hj _ => BB2.out.block j hj) BB2.out.size)
      have HC2 := Lib.hid (HB.out.2.trans (BB2.out.mono HB.out.2.size))
      have hfit : p + q ≤ 9223372036854775807 := by rw [← HP.out, ← HQ.out]; exact HFIT.out s
      have hw1 : IntKind.i64.wrap (9223372036854775807 - q) = 9223372036854775807 - q := by rw [IntKind.wrap_i64]; omega
      have hw2 : IntKind.i64.wrap (p + q) = p + q := by rw [IntKind.wrap_i64]; omega
      have hng : ¬ 9223372036854775807 - q < p := by omega
      have htk : L.take (k + 1) = L.take k ++ [⟨s, p + q⟩] := by
        rw [← HLL.out, ← List.map_take, ← List.map_take, List.take_succ_eq_append_getElem hlt, HS.out, List.map_append, ← HP.out, ← HQ.out]; rfl
      have HTK := Lib.hid htk
      clear htk
      go_wp2_with (at_builtin; refine append_k itmOk rfl _ _ 24 110 (.agg #[.string ⟨#[]⟩, .int .i64 0]) 24 w.heap.size (fun _ => False) rfl Tryz.underlying24 infoItm rfl (by decide) (by decide) u9 (L.take k) (⟨s, p + q⟩ : Itm) #[.string s, .int .i64 (p + q)] rfl rfl ?c1 HO2.out rfl BB.out.size ?c3 ?_)
      case c1 => first | exact ⟨rfl, rfl⟩ | (intro u hu; simp at hu; rcases hu with rfl | rfl <;> rfl)
      case c3 => rw [List.length_take]; omega
      intro v7 w7 hO7 hg7 hat
      have HB7 := Lib.hid (BB.out.grown hg7 BB.out.size (fun j h => (HO2.out.own j h).1))
      have HC7 := Lib.hid (HC2.out.grown hg7 HC2.out.size (fun j h => HOB.out j h))
      have HO7 := Lib.hid (show OwnK itmK 2 110 w7 w.heap.size (fun _ => False) v7 (L.take (k + 1)) by rw [HTK.out]; exact hO7)
      have HOB7 := Lib.hid (show ∀ j, v7.ownBlock = some j → w4.heap.size ≤ j from fun j h => by
        rcases hat with hat | ⟨b7, hb7, hl7⟩
        · exact HOB.out j (by rw [← hat]; exact h)
        · rw [hb7] at h; cases h; have := HC2.out.size; omega)
      clear hO7 hg7 hat
      go_wp2_with fail
      go_roundw
      case rel => exact ⟨k + 1, by omega, by go_num, ⟨HB7.out, HC7.out⟩, HO7.out, HOB7.out⟩
      case measure => simp [intOf]; omega
    · obtain rfl : k = nm.length := by omega
      have hs : SlK itmK 2 wr (fun k => w.heap.size ≤ k) u9 (addI xs ys) := by
        have h := (HO.out.slk itmOk).mono itmOk (ok' := fun k => w.heap.size ≤ k) (fun k h => h.elim (fun h => h.elim) (fun h => (HO.out.own k h).1))
        rw [List.take_of_length_le (by rw [HLn.out]; omega)] at h
        unfold addI
        rw [HNM.out, HLL.out]
        exact h
      have hv := HR.out _ _ HB.out.1 hs
      clear hs
      go_wp2_with fail
      exact hv
set_option maxRecDepth 100000 in
set_option maxHeartbeats 8000000 in
theorem qsub_k (R : Ending → World → Prop) (w : World) (ok : Nat → Prop) (vx vy : Value) (xs ys : List Itm) (hok : ∀ k, ok k → k < w.heap.size) (hx : SlK itmK 2 w ok vx xs) (gx : GoodI xs) (hy : SlK itmK 2 w ok vy ys) (gy : GoodI ys) (hfit : ∀ n, qget ys n ≤ qget xs n)
    (hR : ∀ v' w', Below w.heap.size w w' → SlK itmK 2 w' (fun k => w.heap.size ≤ k) v' (subI xs ys) → R (.returned (.tuple #[v', .string ⟨#[]⟩, .int .i64 0])) w') :
    Calls Tryz.prog 112 #[vx, vy] w R := by
  have HFIT := Lib.hid hfit
  clear hfit
  obtain ⟨Ax, cx, rfl, lcx, _⟩ := hx.form
  have Hx := Lib.hid hx
  have Gx := Lib.hid gx
  have lex : xs.length ≤ 16 := gx.1
  clear hx gx
  obtain ⟨Ay, cy, rfl, lcy, _⟩ := hy.form
  have Hy := Lib.hid hy
  have Gy := Lib.hid gy
  have ley : ys.length ≤ 16 := gy.1
  clear hy gy
  have HR := Lib.hid hR
  have HOK := Lib.hid hok
  clear hR hok
  go_enter Tryz.func112, Tryz.ntmps112
  go_wp2_with fail
  refine qcheck_k _ _ ok _ xs (fun k hk => Nat.lt_of_lt_of_le (HOK.out k hk) (Below.refl w.heap.size w).size) (Hx.out.below itmOk (Below.refl w.heap.size w) HOK.out) Gx.out ?_
  intro w1 g1
  have B1 := Lib.hid ((Below.refl w.heap.size w).trans (g1.mono (Below.refl w.heap.size w).size))
  clear g1
  go_wp2_with fail
  refine qcheck_k _ _ ok _ ys (fun k hk => Nat.lt_of_lt_of_le (HOK.out k hk) B1.out.size) (Hy.out.below itmOk B1.out HOK.out) Gy.out ?_
  intro w2 g2
  have B2 := Lib.hid (B1.out.trans (g2.mono B1.out.size))
  clear g2
  go_wp2_with fail
  refine or_k _ _ (fun k => k = w2.heap.size) _ [0, 0] (fun k hk => by subst hk; simp) (ints_sl (w := w2) (xs := [0, 0]) (cs := #[.int .i64 0, .int .i64 0]) rfl (by simp [maxLen])) (by simp) (by simp) ?_
  intro w3 g3
  have B3 := Lib.hid ((B2.out.alloc B2.out.size (.cells #[.int .i64 0, .int .i64 0] 132)).trans (g3.mono (by have := B2.out.size; simp; omega)))
  clear g3
  go_wp2_with fail
  refine both_k _ _ ok _ _ xs ys (fun k hk => Nat.lt_of_lt_of_le (HOK.out k hk) B3.out.size) (Hx.out.below itmOk B3.out HOK.out) (Hy.out.below itmOk B3.out HOK.out) (by omega) (by omega) ?_
  intro vn w4 g4 hn
  have B4 := Lib.hid (B3.out.trans (g4.mono B3.out.size))
  obtain ⟨nm, hnm⟩ : ∃ nm, bothN xs ys = nm := ⟨_, rfl⟩
  rw [hnm] at hn
  have hnb := (hn.mono strOk (fun k hk => Nat.le_trans B3.out.size hk)).bnd strOk
  obtain ⟨An, cn, en, lcn, _⟩ := hnb.form
  subst en
  have HN := Lib.hid hnb
  have HNM := Lib.hid hnm
  clear g4 hn hnb
  obtain ⟨L, hL⟩ : ∃ L, nm.map (subE xs ys) = L := ⟨_, rfl⟩
  have HLL := Lib.hid hL
  have HLn := Lib.hid (show L.length = nm.length by rw [← hL, List.length_map])
  clear hL
  have hnl : nm.length ≤ 32 := by rw [← HNM.out]; have := bothN_le _ xs ys (Nat.le_refl _); omega
  clear hnm
  go_wp2_with fail
  go_loopw [8, 25] (fun out i wr => ∃ k : Nat, k ≤ nm.length ∧ i = .int .i64 k ∧ (Below w.heap.size w wr ∧ Below w4.heap.size w4 wr) ∧ OwnK itmK 2 110 wr w.heap.size (fun _ => False) out ((L.take k).filter posI) ∧ (∀ j, out.ownBlock = some j → w4.heap.size ≤ j)) (fun _ i _ => nm.length - (intOf i).toNat)
  case atStart => exact ⟨0, Nat.zero_le _, rfl, ⟨B4.out, Below.refl _ _⟩, OwnK.nil (fun _ h => h.elim), fun j h => by cases h⟩
  case round =>
    obtain ⟨k, hk, rfl, hB, hO, hob⟩ := hrel
    have HB := Lib.hid hB
    have HO := Lib.hid hO
    have HOB := Lib.hid hob
    clear hB hO hob
    by_cases hlt : k < nm.length
    · obtain ⟨b, off, c2, he, _, _, bk, bl, hce⟩ := (HN.out.below strOk (HB.out.2) (fun k hk => hk.2)).addr (by omega)
      simp only [Value.slice.injEq] at he
      obtain ⟨he, -, hec⟩ := he
      cases he
      cases hec
      obtain ⟨cs, hcs, _, hcc⟩ := hce k hlt
      cases hcs
      have y0 : wr.cell? ⟨b, off + k, none⟩ = some (.string (nm[k]'hlt)) := by have := hcc 0 _ rfl; simpa using this
      obtain ⟨s, hs⟩ : ∃ s, nm[k]'hlt = s := ⟨_, rfl⟩
      rw [hs] at y0
      have HS := Lib.hid hs
      clear hce hcc hs
      go_wp2_with fail
      have rx := qget_range Gx.out s
      have ry := qget_range Gy.out s
      obtain ⟨p, hp⟩ : ∃ p, qget xs s = p := ⟨_, rfl⟩
      obtain ⟨q, hq⟩ : ∃ q, qget ys s = q := ⟨_, rfl⟩
      have HP := Lib.hid hp
      have HQ := Lib.hid hq
      rw [hp] at rx
      rw [hq] at ry
      clear hp hq
      refine qget_k _ _ ok _ xs s (fun j hj => Nat.lt_of_lt_of_le (HOK.out j hj) HB.out.1.size) (Hx.out.below itmOk HB.out.1 HOK.out) (by omega) ?_
      intro wa ga
      rw [HP.out]
      have BA := Lib.hid (HB.out.1.trans (ga.mono HB.out.1.size))
      have BA2 := Lib.hid ga
      clear ga
      go_wp2_with fail
      refine qget_k _ _ ok _ ys s (fun j hj => Nat.lt_of_lt_of_le (HOK.out j hj) BA.out.size) (Hy.out.below itmOk BA.out HOK.out) (by omega) ?_
      intro wb gb
      rw [HQ.out]
      have BB := Lib.hid (BA.out.trans (gb.mono BA.out.size))
      have BB2 := Lib.hid (BA2.out.trans (gb.mono BA2.out.size))
      clear gb
      have HO2 := Lib.hid (HO.out.move itmOk (fun j hj _ => BB2.out.block j hj) BB2.out.size)
      have HC2 := Lib.hid (HB.out.2.trans (BB2.out.mono HB.out.2.size))
      have hfit : q ≤ p := by rw [← HP.out, ← HQ.out]; exact HFIT.out s
      have hw1 : IntKind.i64.wrap (p - q) = p - q := by rw [IntKind.wrap_i64]; omega
      have htk : L.take (k + 1) = L.take k ++ [⟨s, p - q⟩] := by
        rw [← HLL.out, ← List.map_take, ← List.map_take, List.take_succ_eq_append_getElem hlt, HS.out, List.map_append, ← HP.out, ← HQ.out]; rfl
      have hlen : ((L.take k).filter posI).length ≤ 32 := Nat.le_trans (List.length_filter_le _ _) (by rw [List.length_take]; omega)
      have hn0 : ¬ p - q < 0 := by omega
      by_cases h0 : 0 < p - q
      · have HTK := Lib.hid (show (L.take (k + 1)).filter posI = (L.take k).filter posI ++ [⟨s, p - q⟩] by
          rw [htk, List.filter_append, List.filter_cons_of_pos (show posI ⟨s, p - q⟩ = true by unfold posI; simpa using h0), List.filter_nil])
        clear htk
        go_wp2_with (at_builtin; refine append_k itmOk rfl _ _ 24 110 (.agg #[.string ⟨#[]⟩, .int .i64 0]) 24 w.heap.size (fun _ => False) rfl Tryz.underlying24 infoItm rfl (by decide) (by decide) u8 ((L.take k).filter posI) (⟨s, p - q⟩ : Itm) #[.string s, .int .i64 (p - q)] rfl rfl ?c1 HO2.out rfl BB.out.size ?c3 ?_)
        case c1 => first | exact ⟨rfl, rfl⟩ | (intro u hu; simp at hu; rcases hu with rfl | rfl <;> rfl)
        case c3 => omega
        intro v7 w7 hO7 hg7 hat
        have HB7 := Lib.hid (BB.out.grown hg7 BB.out.size (fun j h => (HO2.out.own j h).1))
        have HC7 := Lib.hid (HC2.out.grown hg7 HC2.out.size (fun j h => HOB.out j h))
        have HOB7 := Lib.hid (show ∀ j, v7.ownBlock = some j → w4.heap.size ≤ j from fun j h => by
          rcases hat with hat | ⟨b7, hb7, hl7⟩
          · exact HOB.out j (by rw [← hat]; exact h)
          · rw [hb7] at h; cases h; have := HC2.out.size; omega)
        have HO7 := Lib.hid (show OwnK itmK 2 110 w7 w.heap.size (fun _ => False) v7 ((L.take (k + 1)).filter posI) by rw [HTK.out]; exact hO7)
        clear hO7 hg7 hat
        go_wp2_with fail
        go_roundw
        case rel => exact ⟨k + 1, by omega, by go_num, ⟨HB7.out, HC7.out⟩, HO7.out, HOB7.out⟩
        case measure => simp [intOf]; omega
      · have HTK := Lib.hid (show (L.take (k + 1)).filter posI = (L.take k).filter posI by
          rw [htk, List.filter_append, List.filter_cons_of_neg (show ¬ posI ⟨s, p - q⟩ = true by unfold posI; simpa using h0), List.filter_nil, List.append_nil])
        have HO7 := Lib.hid (show OwnK itmK 2 110 wb w.heap.size (fun _ => False) u8 ((L.take (k + 1)).filter posI) by rw [HTK.out]; exact HO2.out)
        clear htk
        go_wp2_with fail
        go_roundw
        case rel => exact ⟨k + 1, by omega, by go_num, ⟨BB.out, HC2.out⟩, HO7.out, HOB.out⟩
        case measure => simp [intOf]; omega
    · obtain rfl : k = nm.length := by omega
      have hs : SlK itmK 2 wr (fun k => w.heap.size ≤ k) u8 (subI xs ys) := by
        have h := (HO.out.slk itmOk).mono itmOk (ok' := fun k => w.heap.size ≤ k) (fun k h => h.elim (fun h => h.elim) (fun h => (HO.out.own k h).1))
        rw [List.take_of_length_le (by rw [HLn.out]; omega)] at h
        unfold subI
        rw [HNM.out, HLL.out]
        exact h
      have hv := HR.out _ _ HB.out.1 hs
      clear hs
      go_wp2_with fail
      exact hv
end Go.Proofs.YtdceflgemhcgcaaGreatDoor

namespace Go.Proofs.YtdceflgemhcgcaaGreatDoor
open Go.RowKit Go.BigFrame

set_option maxRecDepth 100000 in
set_option maxHeartbeats 8000000 in
theorem qshort_k (R : Ending → World → Prop) (w : World) (ok : Nat → Prop) (vx vy vz : Value) (xs ys zs : List Itm) (hok : ∀ k, ok k → k < w.heap.size) (hx : SlK itmK 2 w ok vx xs) (gx : GoodI xs) (hy : SlK itmK 2 w ok vy ys) (gy : GoodI ys) (hz : SlK itmK 2 w ok vz zs) (gz : GoodI zs) 
    (hR : ∀ w', Below w.heap.size w w' → R (.returned (.tuple #[.string (shortI xs ys zs).1, .int .i64 (shortI xs ys zs).2])) w') :
    Calls Tryz.prog 108 #[vx, vy, vz] w R := by
  obtain ⟨Ax, cx, rfl, lcx, _⟩ := hx.form
  have Hx := Lib.hid hx
  have Gx := Lib.hid gx
  have lex : xs.length ≤ 16 := gx.1
  clear hx gx
  obtain ⟨Ay, cy, rfl, lcy, _⟩ := hy.form
  have Hy := Lib.hid hy
  have Gy := Lib.hid gy
  have ley : ys.length ≤ 16 := gy.1
  clear hy gy
  obtain ⟨Az, cz, rfl, lcz, _⟩ := hz.form
  have Hz := Lib.hid hz
  have Gz := Lib.hid gz
  have lez : zs.length ≤ 16 := gz.1
  clear hz gz
  have HR := Lib.hid hR
  have HOK := Lib.hid hok
  clear hR hok
  go_enter Tryz.func108, Tryz.ntmps108
  go_wp2_with fail
  refine qcheck_k _ _ ok _ xs (fun k hk => Nat.lt_of_lt_of_le (HOK.out k hk) (Below.refl w.heap.size w).size) (Hx.out.below itmOk (Below.refl w.heap.size w) HOK.out) Gx.out ?_
  intro w1 g1
  have B1 := Lib.hid ((Below.refl w.heap.size w).trans (g1.mono (Below.refl w.heap.size w).size))
  clear g1
  go_wp2_with fail
  refine qcheck_k _ _ ok _ ys (fun k hk => Nat.lt_of_lt_of_le (HOK.out k hk) B1.out.size) (Hy.out.below itmOk B1.out HOK.out) Gy.out ?_
  intro w2 g2
  have B2 := Lib.hid (B1.out.trans (g2.mono B1.out.size))
  clear g2
  go_wp2_with fail
  refine qcheck_k _ _ ok _ zs (fun k hk => Nat.lt_of_lt_of_le (HOK.out k hk) B2.out.size) (Hz.out.below itmOk B2.out HOK.out) Gz.out ?_
  intro w3 g3
  have B3 := Lib.hid (B2.out.trans (g3.mono B2.out.size))
  clear g3
  go_wp2_with fail
  refine or_k _ _ (fun k => k = w3.heap.size) _ [0, 0, 0] (fun k hk => by subst hk; simp) (ints_sl (w := w3) (xs := [0, 0, 0]) (cs := #[.int .i64 0, .int .i64 0, .int .i64 0]) rfl (by simp [maxLen])) (by simp) (by simp) ?_
  intro w4 g4
  have B4 := Lib.hid ((B3.out.alloc B3.out.size (.cells #[.int .i64 0, .int .i64 0, .int .i64 0] 132)).trans (g4.mono (by have := B3.out.size; simp; omega)))
  clear g4
  go_wp2_with fail
  go_loopw [24] (fun i wr => ∃ k : Nat, k ≤ xs.length ∧ i = .int .i64 k ∧ Below w.heap.size w wr ∧ ∀ j (hj : j < xs.length), j < k → shortE ys zs (xs[j]'hj) = 0) (fun i _ => xs.length - (intOf i).toNat)
  case atStart => exact ⟨0, Nat.zero_le _, rfl, B4.out, fun _ _ h => absurd h (Nat.not_lt_zero _)⟩
  case round =>
    obtain ⟨k, hk, rfl, hB, hz⟩ := hrel
    have HB := Lib.hid hB
    have HZ := Lib.hid hz
    clear hB hz
    by_cases hlt : k < xs.length
    · obtain ⟨b, off, c2, he, _, _, bk, bl, hce⟩ := (Hx.out.below itmOk HB.out HOK.out).addr (by omega)
      simp only [Value.slice.injEq] at he
      obtain ⟨he, -, hec⟩ := he
      cases he
      cases hec
      obtain ⟨y0, y1⟩ := ritems_k_cells hce k hlt
      obtain ⟨s, hs⟩ : ∃ s, xs[k]'hlt = s := ⟨_, rfl⟩
      rw [hs] at y0 y1
      have HEs := Lib.hid hs
      clear hce hs
      obtain ⟨w3, hw3⟩ : ∃ w3, w3 = wr.alloc (.cells #[.string s.name, .int .i64 s.n] 110) := ⟨_, rfl⟩
      have HB3 := Lib.hid (show Below w.heap.size w w3 by rw [hw3]; exact Below.alloc HB.out HB.out.size _)
      have HK := Lib.hid (show ∀ W, Below w3.heap.size w3 W → Below w3.heap.size w3 W ∧ W.cell? ⟨wr.heap.size, 0, none⟩ = some (.string s.name) ∧ W.cell? ⟨wr.heap.size, 1, none⟩ = some (.int .i64 s.n) by
        intro W g
        have l : w3.heap[wr.heap.size]? = some (.cells #[.string s.name, .int .i64 s.n] 110) := by rw [hw3]; exact heap_alloc_new _ _
        have l2 := (g.block wr.heap.size (by rw [hw3]; simp)).trans l
        exact ⟨g, cell_at l2 rfl, cell_at l2 rfl⟩)
      have rc := qget_range Gy.out s.name
      have ru := qget_range Gz.out s.name
      obtain ⟨p, hp⟩ : ∃ p, qget ys s.name = p := ⟨_, rfl⟩
      obtain ⟨q, hq⟩ : ∃ q, qget zs s.name = q := ⟨_, rfl⟩
      have HP := Lib.hid hp
      have HQ := Lib.hid hq
      rw [hp] at rc
      rw [hq] at ru
      have HSE := Lib.hid (show shortE ys zs s = if max 0 (p - q) < s.n then 29 else 0 by unfold shortE; rw [hp, hq])
      clear hp hq
      obtain ⟨d, hd⟩ : ∃ d, decide (max 0 (p - q) < s.n) = d := ⟨_, rfl⟩
      have HD := Lib.hid hd
      clear hd
      go_upto_region 7 with fail
      rw [← hw3]
      clear hw3 y0 y1
      go_cut [40] (fun v W => v = .bool d ∧ Below w3.heap.size w3 W)
      case first =>
        have YA := Lib.hid (Below.refl w3.heap.size w3).drew
        refine wp_region_held_drew (S := fun W => Below w3.heap.size w3 W ∧ W.cell? ⟨wr.heap.size, 0, none⟩ = some (.string s.name) ∧ W.cell? ⟨wr.heap.size, 1, none⟩ = some (.int .i64 s.n)) (by kernel_rfl) (HK.out _ YA.out) (fun hHeld => ?_)
        refine' wpAnyH_take (i := 0) (v := _) (List.getElem?_toArray.trans rfl) (by kernel_rfl) (by kernel_rfl) (by kernel_rfl) (fun _ _ _ h => h) (Or.inl ⟨by rfl, ?y0a⟩) hHeld ?r0a
        case y0a => intro w h; (try dsimp only at h); go_simp; (try with_reducible rfl)
        try simp only [Act.put, List.setIfInBounds_toArray, List.set_cons_zero, List.set_cons_succ]
        refine' wpAnyH_take (i := 1) (v := _) (List.getElem?_toArray.trans rfl) (by kernel_rfl) (by kernel_rfl) (by kernel_rfl) (fun _ _ _ h => h) (Or.inl ⟨by rfl, ?y1a⟩) hHeld ?r1a
        case y1a => intro w h; (try dsimp only at h); go_simp; (try with_reducible rfl)
        try simp only [Act.put, List.setIfInBounds_toArray, List.set_cons_zero, List.set_cons_succ]
        refine' wpAnyH_take (i := 2) (v := _) (List.getElem?_toArray.trans rfl) (by kernel_rfl) (by kernel_rfl) (by kernel_rfl) (fun _ _ _ h => h) (Or.inl ⟨by rfl, ?y2a⟩) hHeld ?r2a
        case y2a => intro w h; (try dsimp only at h); go_simp; (try with_reducible rfl)
        try simp only [Act.put, List.setIfInBounds_toArray, List.set_cons_zero, List.set_cons_succ]
        refine' wpAnyH_take (i := 3) (v := _) (List.getElem?_toArray.trans rfl) (by kernel_rfl) (by kernel_rfl) (by kernel_rfl) (fun _ _ _ h => h) (Or.inl ⟨by rfl, ?y3a⟩) hHeld ?r3a
        case y3a => intro w h; (try dsimp only at h); go_simp; (try with_reducible rfl)
        try simp only [Act.put, List.setIfInBounds_toArray, List.set_cons_zero, List.set_cons_succ]
        refine' wpAnyH_take (i := 4) (v := _) (List.getElem?_toArray.trans rfl) (by kernel_rfl) (by kernel_rfl) (by kernel_rfl) (fun _ _ _ h => h) (Or.inl ⟨by rfl, ?y4a⟩) hHeld ?r4a
        case y4a => intro w h; (try dsimp only at h); go_simp; (try with_reducible rfl)
        try simp only [Act.put, List.setIfInBounds_toArray, List.set_cons_zero, List.set_cons_succ]
        refine' wpAnyH_take (i := 6) (v := _) (List.getElem?_toArray.trans rfl) (by kernel_rfl) (by kernel_rfl) (by kernel_rfl) (fun _ _ _ h => h) (Or.inl ⟨by rfl, ?y6a⟩) hHeld ?r6a
        case y6a => intro w h; (try dsimp only at h); go_simp; (try with_reducible rfl)
        try simp only [Act.put, List.setIfInBounds_toArray, List.set_cons_zero, List.set_cons_succ]
        refine' wpAnyH_take (i := 7) (v := _) (List.getElem?_toArray.trans rfl) (by kernel_rfl) (by kernel_rfl) (by kernel_rfl) (fun _ _ _ h => h) (Or.inl ⟨by rfl, ?y7a⟩) hHeld ?r7a
        case y7a => intro w h; (try dsimp only at h); go_simp; (try with_reducible rfl)
        try simp only [Act.put, List.setIfInBounds_toArray, List.set_cons_zero, List.set_cons_succ]
        refine' wpAnyH_take (i := 8) (v := _) (List.getElem?_toArray.trans rfl) (by kernel_rfl) (by kernel_rfl) (by kernel_rfl) (fun _ _ _ h => h) (Or.inl ⟨by rfl, ?y8a⟩) hHeld ?r8a
        case y8a => intro w h; (try dsimp only at h); go_simp; (try with_reducible rfl)
        try simp only [Act.put, List.setIfInBounds_toArray, List.set_cons_zero, List.set_cons_succ]
        refine wpAnyH_ready (rs := [5]) (by kernel_rfl) (by simp) ?_
        refine AllReadyH.cons (List.getElem?_toArray.trans rfl) (fun K hK => ?_) AllReadyH.nil
        go_simp
        refine qget_k _ _ ok _ ys s.name (fun j hj => Nat.lt_of_lt_of_le (HOK.out j hj) (Nat.le_trans HB3.out.size hHeld.1.size)) (Hy.out.below itmOk (HB3.out.trans (hHeld.1.mono HB3.out.size)) HOK.out) (by omega) ?_
        intro w4 gw4
        rw [HP.out]
        have Bw4 := Lib.hid (show Below w3.heap.size w3 w4 from hHeld.1.trans (gw4.mono hHeld.1.size))
        clear gw4
        go_wp2_with fail
        refine hK.out _ _ (HK.out _ Bw4.out) (fun hHeld => ?_)
        clear hK K
        try simp only [Act.put, List.setIfInBounds_toArray, List.set_cons_zero, List.set_cons_succ]
        refine wpAnyH_ready (rs := [9]) (by kernel_rfl) (by simp) ?_
        refine AllReadyH.cons (List.getElem?_toArray.trans rfl) (fun K hK => ?_) AllReadyH.nil
        go_simp
        refine qget_k _ _ ok _ zs s.name (fun j hj => Nat.lt_of_lt_of_le (HOK.out j hj) (Nat.le_trans HB3.out.size Bw4.out.size)) (Hz.out.below itmOk (HB3.out.trans (Bw4.out.mono HB3.out.size)) HOK.out) (by omega) ?_
        intro w5 gw5
        rw [HQ.out]
        have Bw5 := Lib.hid (show Below w3.heap.size w3 w5 from Bw4.out.trans (gw5.mono Bw4.out.size))
        clear gw5
        go_wp2_with fail
        refine hK.out _ _ (HK.out _ Bw5.out) (fun hHeld => ?_)
        clear hK K
        try simp only [Act.put, List.setIfInBounds_toArray, List.set_cons_zero, List.set_cons_succ]
        refine' wpAnyH_take (i := 10) (v := _) (List.getElem?_toArray.trans rfl) (by kernel_rfl) (by kernel_rfl) (by kernel_rfl) (fun _ _ _ h => h) (Or.inl ⟨by rfl, ?y10b⟩) hHeld ?r10b
        case y10b => intro w h; (try dsimp only at h); go_simp; (try with_reducible rfl)
        try simp only [Act.put, List.setIfInBounds_toArray, List.set_cons_zero, List.set_cons_succ]
        refine' wpAnyH_take (i := 11) (v := _) (List.getElem?_toArray.trans rfl) (by kernel_rfl) (by kernel_rfl) (by kernel_rfl) (fun _ _ _ h => h) (Or.inl ⟨by rfl, ?y11b⟩) hHeld ?r11b
        case y11b => intro w h; (try dsimp only at h); go_simp; (try with_reducible rfl)
        try simp only [Act.put, List.setIfInBounds_toArray, List.set_cons_zero, List.set_cons_succ]
        refine' wpAnyH_take (i := 12) (v := _) (List.getElem?_toArray.trans rfl) (by kernel_rfl) (by kernel_rfl) (by kernel_rfl) (fun _ _ _ h => h) (Or.inl ⟨by rfl, ?y12b⟩) hHeld ?r12b
        case y12b => intro w h; (try dsimp only at h); go_simp; (try with_reducible rfl)
        try simp only [Act.put, List.setIfInBounds_toArray, List.set_cons_zero, List.set_cons_succ]
        refine wpAnyH_done (by kernel_rfl) ?_ _
        go_wp2_with fail
        go_meet
        exact ⟨by rw [← HD.out]; first | rfl | simp [show IntKind.i64.wrap (p - q) = p - q by rw [IntKind.wrap_i64]; omega], Bw5.out⟩
      obtain ⟨rfl, yb⟩ := hcut
      have HB5 := Lib.hid (HB3.out.trans (yb.mono HB3.out.size))
      obtain ⟨_, n0, n1⟩ := HK.out _ yb
      clear yb
      cases d with
      | true =>
        have hv := HR.out wc HB5.out
        rw [shortI_at hlt HZ.out (by rw [HEs.out, HSE.out, if_pos (of_decide_eq_true HD.out)]; decide), HEs.out] at hv
        go_wp2_with fail
        exact hv
      | false =>
        have H1 := Lib.hid (show shortE ys zs (xs[k]'hlt) = 0 by rw [HEs.out, HSE.out, if_neg (of_decide_eq_false HD.out)])
        go_wp2_with fail
        go_roundw
        case rel => exact ⟨k + 1, by omega, by go_num, HB5.out, fun j hj hjk => by
          by_cases hjk2 : j < k
          · exact HZ.out j hj hjk2
          · obtain rfl : j = k := by omega
            exact H1.out⟩
        case measure => simp [intOf]; omega
    · have hv := HR.out wr HB.out
      rw [shortI_none (fun j hj => HZ.out j hj (by omega))] at hv
      go_wp2_with fail
      exact hv
end Go.Proofs.YtdceflgemhcgcaaGreatDoor
