/-
berthref09: Ranked, Near.
domain: tally.
domain: Ranked, Near.
domain: Near, Tally; all of a nil Domains.
domain: Values.
-/
import Derived.Test.YtmenipaibjifiaaGreatDoorA42
import Derived.Test.YtmenipaibjifiaaGreatDoorA40
import Derived.Test.YtmenipaibjifiaaGreatDoorA41
import Derived.Deep.RegionHeld3
import Derived.Test.YtmenipaibjifiaaGreatDoorA27
set_option linter.unusedVariables false
set_option linter.unusedSimpArgs false
namespace Go.Proofs.YtmenipaibjifiaaGreatDoor
open Go.RowKit Go.BigFrame

def rankTo (rows : List RRow) (d : RDom) (key : ByteArray) (c n : Int) (k : Nat) : List Int := (d.nodes.take k).flatMap (rankRow rows key c n)
def rankHit (v : ByteArray) (c n : Int) (r : RRow) : Bool := decide (r.value = v) && standsB r.n c n
def rankIn (rows : List RRow) (v : ByteArray) (c n s : Int) (j : Nat) : List Int := ((rows.take j).filter (rankHit v c n)).map (fun _ => s)
theorem rankTo_snoc (rows : List RRow) (d : RDom) (key : ByteArray) (c n : Int) {k : Nat} (hk : k < d.nodes.length) : rankTo rows d key c n (k + 1) = rankTo rows d key c n k ++ rankRow rows key c n (d.nodes[k]'hk) := by
  unfold rankTo
  rw [List.take_succ_eq_append_getElem hk, List.flatMap_append]
  simp
theorem rankIn_snoc (rows : List RRow) (v : ByteArray) (c n s : Int) {j : Nat} (hj : j < rows.length) : rankIn rows v c n s (j + 1) = rankIn rows v c n s j ++ (if rankHit v c n (rows[j]'hj) = true then [s] else []) := by
  unfold rankIn
  rw [List.take_succ_eq_append_getElem hj, List.filter_append, List.map_append]
  by_cases h : rankHit v c n (rows[j]'hj) = true <;> simp [h]
theorem rankIn_len (rows : List RRow) (v : ByteArray) (c n s : Int) (j : Nat) : (rankIn rows v c n s j).length ≤ rows.length := by
  unfold rankIn
  rw [List.length_map]
  exact filter_take_le _ _ _
theorem rankRow_len (rows : List RRow) (key : ByteArray) (c n : Int) (x : RNode) : (rankRow rows key c n x).length ≤ rows.length := by
  unfold rankRow
  split
  · simp
  · rw [List.length_map]; exact List.length_filter_le _ _
theorem rankTo_len {d : RDom} (Z : Sized d) (rows : List RRow) (hr : rows.length ≤ 512) (key : ByteArray) (c n : Int) (k : Nat) : (rankTo rows d key c n k).length ≤ 262144 := by
  have h2 := flat_len' (rankRow rows key c n) 512 (d.nodes.take k) (fun x _ => Nat.le_trans (rankRow_len _ _ _ _ _) hr)
  have h3 := Z.n
  rw [List.length_take] at h2
  unfold rankTo
  omega
set_option maxRecDepth 100000 in
set_option maxHeartbeats 4000000 in
theorem rranked_k (R : Ending → World → Prop) (w : World) (ok : Nat → Prop) (d : RDom) (key : ByteArray) (vps : Value) (pods : List Int) (cm n : Int) (cs : List Value) (hok : ∀ k, ok k → k < w.heap.size) (hd : rdomK w ok d cs) (Z : Sized d)
    (hpd : SlK intsK 1 w ok vps pods) (hpl : pods.length ≤ 1073741824)
    (hR : ∀ v' w', Below w.heap.size w w' → SlK intsK 1 w' (fun k => w.heap.size ≤ k) v' (rRankedL d key pods cm n) → R (.returned v') w') :
    Calls Tryz.prog 151 #[.agg cs.toArray, .string key, vps, .int .i64 cm, .int .i64 n] w R := by
  obtain ⟨Aq, cq, eq, hlq, _⟩ := hpd.form
  subst eq
  obtain ⟨vn, vp, rfl, hn, hp⟩ := hd
  have hB : Below w.heap.size w (w.alloc (.cells #[vn, vp] 29)) := Below.alloc (Below.refl _ _) (Nat.le_refl _) _
  have q0 : (w.alloc (.cells #[vn, vp] 29)).cell? ⟨w.heap.size, 0, none⟩ = some vn := cell_new rfl
  have q1 : (w.alloc (.cells #[vn, vp] 29)).cell? ⟨w.heap.size, 1, none⟩ = some vp := cell_new rfl
  have HR := Lib.hid hR
  have HN := Lib.hid (hn.below rnodeOk hB hok)
  have HP := Lib.hid (hp.below rpodOk hB hok)
  obtain ⟨A, c, e, hlc, _⟩ := hn.form
  subst e
  obtain ⟨A2, c2, e2, hlc2, _⟩ := hp.form
  subst e2
  have HOK := Lib.hid (show ∀ k, ok k → k < (w.alloc (.cells #[.slice A d.nodes.length c, .slice A2 d.pods.length c2] 29)).heap.size from fun k h => by have := hok k h; simp; omega)
  have HZ := Lib.hid Z
  have HPD := Lib.hid (hpd.below intOk hB hok)
  clear hpd
  have hzn := Z.n
  have hzp := Z.p
  clear hR hn hp hok Z
  go_enter Tryz.func151, Tryz.ntmps151
  go_wp2_with fail
  generalize hW0 : w.alloc (.cells #[.slice A d.nodes.length c, .slice A2 d.pods.length c2] 29) = w0 at *
  clear hW0
  refine rtally_k _ _ ok d key _ pods [_, _] HOK.out ⟨_, _, rfl, HN.out, HP.out⟩ HZ.out HPD.out hpl ?_
  intro vl w1 g1 hl1
  obtain ⟨rs, hrs⟩ : ∃ rs, rTallyL d key pods = rs := ⟨_, rfl⟩
  have hrl : rs.length ≤ 512 := by
    have := valTo_length HZ.out key d.nodes.length
    unfold valTo at this
    rw [List.take_length] at this
    rw [← hrs, rTallyL_eq, List.length_map]
    exact this
  have hRv : ∀ v' w', Below w.heap.size w w' → SlK intsK 1 w' (fun k => w.heap.size ≤ k) v' (rankTo rs d key cm n d.nodes.length) → R (.returned v') w' := fun v' w' h h2 => HR.out v' w' h (by unfold rRankedL; rw [hrs]; unfold rankTo at h2; rwa [List.take_length] at h2)
  have HRV := Lib.hid hRv
  rw [hrs] at hl1
  obtain ⟨A3, c3, e3, hl3, _⟩ := hl1.form
  subst e3
  have HL1 := Lib.hid (SlK.bnd rrowOk hl1)
  have q0w := (Mod.of_below g1).cell' q0 (fun h => h)
  have HG1 := Lib.hid g1
  have hs1 := g1.size
  clear hl1 hrs g1 q0 q1 hRv HR
  go_wp2_with fail
  go_loopw [12, 13] (fun v i wr => ∃ k : Nat, k ≤ d.nodes.length ∧ i = .int .i64 k ∧ Below w1.heap.size w1 wr ∧ OwnK intsK 1 3 wr w1.heap.size (fun _ => False) v (rankTo rs d key cm n k)) (fun _ i _ => d.nodes.length - (intOf i).toNat)
  case atStart => exact ⟨0, Nat.zero_le _, rfl, Below.refl _ _, .nil (fun _ h => h.elim)⟩
  case round =>
    obtain ⟨k, hk, rfl, hBr, hO⟩ := hrel
    have hsr := hBr.size
    have q0r := (Mod.of_below hBr).cell' q0w (fun h => h)
    by_cases hkl : k < d.nodes.length
    · have hB1r := HG1.out.trans (hBr.mono hs1)
      have hn2 := HN.out.below rnodeOk hB1r HOK.out
      obtain ⟨b, off, c', he, _, _, hbk, hbl, hce⟩ := hn2.addr (by omega)
      simp only [Value.slice.injEq] at he
      obtain ⟨rfl, -, rfl⟩ := he
      obtain ⟨v1, c0, c1, hv1⟩ := rnode_cells hce k hkl
      have hxl : (d.nodes[k]'hkl).labels.length ≤ 32 := HZ.out.nl _ (List.getElem_mem hkl)
      have hsn := rankTo_snoc rs d key cm n hkl
      have hto := rankTo_len HZ.out rs hrl key cm n k
      obtain ⟨x, hx⟩ : ∃ x, d.nodes[k]'hkl = x := ⟨_, rfl⟩
      rw [hx] at hv1 hxl hsn c0
      obtain ⟨ls, hls⟩ : ∃ ls, x.labels = ls := ⟨_, rfl⟩
      obtain ⟨sx, hsx⟩ : ∃ sx, x.slot = sx := ⟨_, rfl⟩
      unfold rankRow at hsn
      rw [hls] at hv1 hxl hsn
      rw [hsx] at c0 hsn
      have HV1 := Lib.hid hv1
      have HOKr := Lib.hid (show ∀ j, ok j → j < wr.heap.size from fun j hj => Nat.lt_of_lt_of_le (HOK.out j hj) hB1r.size)
      cases hg : getB ls key with
      | none =>
        have HG := Lib.hid (show (getB ls key).getD ⟨#[]⟩ = ⟨#[]⟩ ∧ (getB ls key).isSome = false by rw [hg]; exact ⟨rfl, rfl⟩)
        rw [hg] at hsn
        have HSN := Lib.hid hsn
        have HBR := Lib.hid hBr
        have HO := Lib.hid hO
        clear hce hn2 hv1 hBr hO hls hsn hg hx hsx hB1r
        go_wp2_with fail
        refine rget_t _ _ ok v1 ls key _ _ HG.out HOKr.out HV1.out (by omega) ?_
        intro w3 g3
        have HB3 := Lib.hid (HBR.out.trans (g3.mono hsr))
        have HO3 := Lib.hid (HO.out.move intOk (w' := w3) (fun j hj _ => g3.block j hj) g3.size)
        clear g3
        go_wp2_with fail
        go_roundw
        case rel => exact ⟨k + 1, by omega, by go_num, HB3.out, by rw [HSN.out]; simpa using HO3.out⟩
        case measure => simp [intOf]; omega
      | some u =>
        have HG := Lib.hid (show (getB ls key).getD ⟨#[]⟩ = u ∧ (getB ls key).isSome = true by rw [hg]; exact ⟨rfl, rfl⟩)
        rw [hg] at hsn
        have hsn2 : rankTo rs d key cm n (k + 1) = rankTo rs d key cm n k ++ rankIn rs u cm n sx rs.length := by rw [hsn]; unfold rankIn; rw [List.take_length]; rfl
        have HSN := Lib.hid hsn2
        have HBR := Lib.hid hBr
        have HO := Lib.hid hO
        clear hce hn2 hv1 hBr hO hls hsn hg hx hsx hB1r hsn2
        go_wp2_with fail
        refine rget_t _ _ ok v1 ls key _ _ HG.out HOKr.out HV1.out (by omega) ?_
        intro w3 g3
        have HB3 := Lib.hid (HBR.out.trans (g3.mono hsr))
        have HO3 := Lib.hid (HO.out.move intOk (w' := w3) (fun j hj _ => g3.block j hj) g3.size)
        have q03 := (Mod.of_below g3).cell' q0r (fun h => h)
        have c03 := (Mod.of_below g3).cell' c0 (fun h => h)
        have c13 := (Mod.of_below g3).cell' c1 (fun h => h)
        have hs3 := g3.size
        have hlt1 : w.heap.size < w1.heap.size := by have := (World.block_lt_of_cell? _ _ q0w); exact this
        have hltb : b < w3.heap.size := World.block_lt_of_cell? _ _ c03
        clear g3
        obtain ⟨w5, e5⟩ : ∃ W, W = wr := ⟨_, rfl⟩
        subst e5
        have hbB : b < w1.heap.size := by
          have := HOK.out b hbk
          omega
        go_wp2_with fail
        go_loopw [12, 16] (fun v i wt => ∃ j : Nat, j ≤ rs.length ∧ i = .int .i64 j ∧ Below w1.heap.size w1 wt ∧ OwnK intsK 1 3 wt w1.heap.size (fun _ => False) v (rankTo rs d key cm n k ++ rankIn rs u cm n sx j)) (fun _ i _ => rs.length - (intOf i).toNat)
        case atStart => exact ⟨0, Nat.zero_le _, rfl, HB3.out, by simpa [rankIn] using HO3.out⟩
        case round =>
          obtain ⟨j, hj, rfl, hBt, hOt⟩ := hrel
          have hst := hBt.size
          have q0t := (hBt.cell (p := ⟨w.heap.size, 0, none⟩) hlt1).trans q0w
          by_cases hjl : j < rs.length
          · have hv3 := HL1.out.below rrowOk hBt (fun i hi => hi.2)
            obtain ⟨b5, off5, c5', he5, _, _, hbk5, hbl5, hce5⟩ := hv3.addr (by omega)
            simp only [Value.slice.injEq] at he5
            obtain ⟨rfl, -, rfl⟩ := he5
            obtain ⟨cs5, hc5, _, hc6⟩ := hce5 j hjl
            cases hc5
            have z0 : wr.cell? ⟨b5, off5 + j * 2, none⟩ = some (.string (rs[j]'hjl).value) := hc6 0 _ rfl
            have z1 : wr.cell? ⟨b5, off5 + j * 2 + 1, none⟩ = some (.int .i64 (rs[j]'hjl).n) := hc6 1 _ rfl
            have hb1 : Below w1.heap.size w1 w1 := Below.refl _ _
            have c0t : wr.cell? ⟨b, off + k * 2, none⟩ = some (.int .i64 sx) := by
              have h1 := HBR.out.cell (p := ⟨b, off + k * 2, none⟩) hbB
              have h2 := hBt.cell (p := ⟨b, off + k * 2, none⟩) hbB
              rw [h2, ← h1]; exact c0
            have hsn3 := rankIn_snoc rs u cm n sx hjl
            unfold rankHit at hsn3
            obtain ⟨rv, hrv⟩ : ∃ rv, (rs[j]'hjl).value = rv := ⟨_, rfl⟩
            obtain ⟨rn, hrn⟩ : ∃ rn, (rs[j]'hjl).n = rn := ⟨_, rfl⟩
            rw [hrv] at z0 hsn3
            rw [hrn] at z1 hsn3
            have hil := rankIn_len rs u cm n sx j
            have HBT := Lib.hid hBt
            have HSN3 := Lib.hid hsn3
            clear hce5 hc6 hv3 hBt hrv hrn hsn3 hb1
            cases hso : standsB rn cm n with
            | false =>
              have HX := Lib.hid (show rankIn rs u cm n sx (j + 1) = rankIn rs u cm n sx j by rw [HSN3.out, hso]; simp)
              have HSO := Lib.hid hso
              clear hso
              cases he : (rv.toList == u.toList) with
              | false =>
                have HOT := Lib.hid hOt
                clear hOt
                go_wp2_with fail
                refine rcmp_k _ _ rn cm n ?_
                rw [HSO.out]
                go_wp2_with fail
                go_roundw
                case rel => exact ⟨j + 1, by omega, by go_num, HBT.out, by rw [HX.out]; exact HOT.out⟩
                case measure => simp [intOf]; omega
              | true =>
                have HOT := Lib.hid hOt
                clear hOt
                go_wp2_with fail
                refine rcmp_k _ _ rn cm n ?_
                rw [HSO.out]
                go_wp2_with fail
                go_roundw
                case rel => exact ⟨j + 1, by omega, by go_num, HBT.out, by rw [HX.out]; exact HOT.out⟩
                case measure => simp [intOf]; omega
            | true =>
              have HSO := Lib.hid hso
              cases he : (rv.toList == u.toList) with
              | false =>
                have HX := Lib.hid (show rankIn rs u cm n sx (j + 1) = rankIn rs u cm n sx j by rw [HSN3.out]; rw [ba_toList_beq] at he; simp at he; simp [he])
                have HOT := Lib.hid hOt
                clear hOt hso
                go_wp2_with fail
                refine rcmp_k _ _ rn cm n ?_
                rw [HSO.out]
                go_wp2_with fail
                go_roundw
                case rel => exact ⟨j + 1, by omega, by go_num, HBT.out, by rw [HX.out]; exact HOT.out⟩
                case measure => simp [intOf]; omega
              | true =>
                have HX := Lib.hid (show rankIn rs u cm n sx (j + 1) = rankIn rs u cm n sx j ++ [sx] by rw [HSN3.out, hso]; rw [ba_toList_beq] at he; simp at he; simp [he])
                clear hso
                go_wp2_with fail
                refine rcmp_k _ _ rn cm n ?_
                rw [HSO.out]
                go_wp2_with (at_builtin; refine append_k intOk rfl _ _ 43 3 (.int .i64 0) 8 w1.heap.size (fun _ => False) rfl Tryz.underlying43 infoInt rfl (by decide) (by decide) u12 (rankTo rs d key cm n k ++ rankIn rs u cm n sx j) sx #[.int .i64 sx] rfl rfl ?d1 hOt ?d2 hst ?d3 ?_)
                case d1 => simp [Value.oneCell']
                case d2 => rfl
                case d3 => rw [List.length_append]; omega
                intro v4 w4 hO4 hg4 _
                have HB4 := Lib.hid (HBT.out.grown hg4 hst (fun k h => (hOt.own k h).1))
                have HO4 := Lib.hid hO4
                clear hO4 hg4 hOt
                go_wp2_with fail
                go_roundw
                case rel => exact ⟨j + 1, by omega, by go_num, HB4.out, by rw [HX.out]; exact HO4.out⟩
                case measure => simp [intOf]; omega
          · obtain rfl : j = rs.length := by omega
            have HBT := Lib.hid hBt
            have HOT := Lib.hid hOt
            clear hBt hOt
            go_wp2_with fail
            go_roundw
            case rel => exact ⟨k + 1, by omega, by go_num, HBT.out, by rw [HSN.out]; exact HOT.out⟩
            case measure => simp [intOf]; omega
    · obtain rfl : k = d.nodes.length := by omega
      have hv := HRV.out u12 wr (hB.trans ((HG1.out.trans (hBr.mono hs1)).mono hB.size)) (SlK.mono intOk (hO.slk intOk) (fun j hj => hj.elim (fun h => h.elim) (fun h => Nat.le_trans hB.size (Nat.le_trans hs1 (hO.own j h).1))))
      clear hO hBr
      go_wp2_with fail
      exact hv
set_option maxRecDepth 100000 in
set_option maxHeartbeats 4000000 in
theorem rnear_k (R : Ending → World → Prop) (w : World) (ok : Nat → Prop) (d : RDom) (key : ByteArray) (vps : Value) (pods : List Int) (cs : List Value) (hok : ∀ k, ok k → k < w.heap.size) (hd : rdomK w ok d cs) (Z : Sized d)
    (hpd : SlK intsK 1 w ok vps pods) (hpl : pods.length ≤ 1073741824)
    (hR : ∀ v' w', Below w.heap.size w w' → SlK intsK 1 w' (fun k => w.heap.size ≤ k) v' (rRankedL d key pods 6 1) → R (.returned v') w') :
    Calls Tryz.prog 150 #[.agg cs.toArray, .string key, vps] w R := by
  obtain ⟨Aq, cq, eq, hlq, _⟩ := hpd.form
  subst eq
  obtain ⟨vn, vp, rfl, hn, hp⟩ := hd
  have hB : Below w.heap.size w (w.alloc (.cells #[vn, vp] 29)) := Below.alloc (Below.refl _ _) (Nat.le_refl _) _
  have q0 : (w.alloc (.cells #[vn, vp] 29)).cell? ⟨w.heap.size, 0, none⟩ = some vn := cell_new rfl
  have q1 : (w.alloc (.cells #[vn, vp] 29)).cell? ⟨w.heap.size, 1, none⟩ = some vp := cell_new rfl
  have HR := Lib.hid hR
  have HN := Lib.hid (hn.below rnodeOk hB hok)
  have HP := Lib.hid (hp.below rpodOk hB hok)
  obtain ⟨A, c, e, hlc, _⟩ := hn.form
  subst e
  obtain ⟨A2, c2, e2, hlc2, _⟩ := hp.form
  subst e2
  have HOK := Lib.hid (show ∀ k, ok k → k < (w.alloc (.cells #[.slice A d.nodes.length c, .slice A2 d.pods.length c2] 29)).heap.size from fun k h => by have := hok k h; simp; omega)
  have HZ := Lib.hid Z
  have HPD := Lib.hid (hpd.below intOk hB hok)
  clear hpd
  have hzn := Z.n
  have hzp := Z.p
  clear hR hn hp hok Z
  go_enter Tryz.func150, Tryz.ntmps150
  go_wp2_with fail
  generalize hW0 : w.alloc (.cells #[.slice A d.nodes.length c, .slice A2 d.pods.length c2] 29) = w0 at *
  clear hW0
  refine rranked_k _ _ ok d key _ pods 6 1 [_, _] HOK.out ⟨_, _, rfl, HN.out, HP.out⟩ HZ.out HPD.out hpl ?_
  intro v' w1 g1 hl1
  have hv := HR.out v' w1 (hB.trans (g1.mono hB.size)) (SlK.mono intOk hl1 (fun j hj => Nat.le_trans hB.size hj))
  obtain ⟨A3, c3, e3, hl3, _⟩ := hl1.form
  subst e3
  clear hl1 g1
  go_wp2_with fail
  exact hv
end Go.Proofs.YtmenipaibjifiaaGreatDoor

namespace Go.Proofs.YtmenipaibjifiaaGreatDoor
open Go.RowKit Go.BigFrame

/-- How many of these pods stand in a domain. -/
def numT (S : St) (key : ByteArray) (m : Nat) (ps : List Nat) (v : ByteArray) : Int :=
  ((mems (max (setA S (key, v)).2.1 m) (zipW (· &&& ·) ((max (setA S (key, v)).2.1 m + 63) / 64) (setA S (key, v)).2.2 ps)).length : Nat)
/-- The first k numbers, zeros behind them. -/
def numsTo (f : ByteArray → Int) (vs : List ByteArray) (k : Nat) : List Int := (vs.take k).map f ++ List.replicate (vs.length - k) 0
theorem numsTo_length (f : ByteArray → Int) (vs : List ByteArray) (k : Nat) (h : k ≤ vs.length) : (numsTo f vs k).length = vs.length := by simp [numsTo]; omega
theorem numsTo_set (f : ByteArray → Int) (vs : List ByteArray) (k : Nat) (h : k < vs.length) : (numsTo f vs k).set k (f (vs[k]'h)) = numsTo f vs (k + 1) := by
  unfold numsTo
  have h1 : ((vs.take k).map f).length = k := by simp; omega
  rw [List.set_append_right _ _ (by omega), h1, Nat.sub_self, show vs.length - k = (vs.length - (k + 1)) + 1 by omega, List.replicate_succ, List.set_cons_zero, List.take_succ_eq_append_getElem h, List.map_append]
  simp
theorem numsTo_all (f : ByteArray → Int) (vs : List ByteArray) : numsTo f vs vs.length = vs.map f := by simp [numsTo]
def intCells (l : List Int) : Array Value := (l.map (Value.int .i64)).toArray
theorem ints_sl {w : World} {ok : Nat → Prop} {b : Nat} {l : List Int} (hb : w.heap[b]? = some (.cells (intCells l) 3)) (hok : ok b) (hl : l.length ≤ 1073741824) : SlK intsK 1 w ok (.slice (some ⟨b, 0, none⟩) l.length l.length) l := by
  refine ⟨_, _, rfl, Nat.le_refl _, by unfold maxLen; omega, .inr ⟨b, 0, rfl, hok, (Array.getElem?_eq_some_iff.1 hb).1, fun j x hx => ⟨intC x, rfl, rfl, fun i u hu => ?_⟩⟩⟩
  cases i with
  | succ i => simp [intC] at hu
  | zero =>
    simp only [intC, List.getElem?_cons_zero, Option.some.injEq] at hu
    subst hu
    refine cell_at hb ?_
    simp [intCells, hx]

set_option maxRecDepth 100000 in
set_option maxHeartbeats 4000000 in
theorem tally_d (R : Ending → World → Prop) (w : World) (h : Hdr) (own : Own') (S : St) (key : ByteArray) (okp : Nat → Prop) (vp : Value) (m : Nat) (ps : List Nat) (D : DomAt w h own S) (hP : SetP w okp vp m ps) (hokp : ∀ k, okp k → k < w.heap.size) (hm64 : m = 0 ∨ m = 2048)
    (hsz : ∀ v, (innerG S key v).isSome = true → v.size ≤ 1048576) (hnum : ∀ ks : List ByteArray, ks.Nodup → (∀ k, k ∈ ks → (innerG S key k).isSome = true) → ks.length ≤ 1048576)
    (hR : ∀ v nv ks w', Below w.heap.size w w' → ks.Nodup → (∀ k, k ∈ ks ↔ (innerG S key k).isSome = true) → SlK strsK 1 w' (fun k => w.heap.size ≤ k) v (sortedK ks) → SlK intsK 1 w' (fun k => w.heap.size ≤ k) nv ((sortedK ks).map (numT S key m ps)) → R (.returned (.tuple #[v, nv])) w') :
    Calls Tryz.prog 88 #[.pointer (some ⟨h.d, 0, none⟩), .string key, vp] w R := by
  have HR := Lib.hid hR
  have HD := Lib.hid D
  have HP := Lib.hid hP
  have HOKP := Lib.hid hokp
  clear hR D hP hokp
  obtain ⟨i0, hi, hz0, hz1, hz2⟩ := info_parts infoInt
  go_enter Tryz.func88, Tryz.ntmps88
  go_wp2_with fail
  refine valuesOf_d _ _ h own S key HD.out hsz (fun ks hk hks => hnum ks hk hks) ?_
  intro v ks w1 g1 hnd hks hsl
  have hkl : ks.length ≤ 1048576 := hnum ks hnd (fun k hk => (hks k).1 hk)
  obtain ⟨vs, hvs⟩ : ∃ vs, sortedK ks = vs := ⟨_, rfl⟩
  have hvl : vs.length ≤ 1048576 := by rw [← hvs]; simp [sortedK, List.length_mergeSort]; exact hkl
  rw [hvs] at hsl
  obtain ⟨Av, cv, ev, hcv, _⟩ := hsl.form
  subst ev
  have HG1 := Lib.hid g1
  have HND := Lib.hid hnd
  have HKS := Lib.hid hks
  have HVS := Lib.hid hvs
  have HSL := Lib.hid (hsl.bnd strOk)
  clear g1 hnd hks hvs hsl hnum hsz hkl
  go_wp2_with (at_make; refine wpList_make_row _ rfl _ _ 43 rfl 3 i0 (.int .i64 0) Tryz.underlying43 hi hz0 hz1 rfl _ _ vs.length rfl rfl (by rw [hz2]; omega) (by omega) ?_)
  have hb0 : (w1.alloc (.cells (madeCells #[.int .i64 0] vs.length) 3)).heap[w1.heap.size]? = some (.cells (intCells (numsTo (numT S key m ps) vs 0)) 3) := by
    rw [heap_alloc_new]
    congr 2
    apply Array.ext
    · simp [madeCells, intCells, numsTo]
    · intro i h1 h2
      simp [madeCells, Nat.mod_one, intCells, numsTo]
  have hB2 : Below w.heap.size w (w1.alloc (.cells (madeCells #[.int .i64 0] vs.length) 3)) := HG1.out.alloc HG1.out.size _
  have hs1 := HG1.out.size
  go_loopw [20] (fun i wr => ∃ k : Nat, k ≤ vs.length ∧ i = .int .i64 k ∧ Below w.heap.size w wr ∧ w1.heap.size < wr.heap.size ∧ (∀ j, j < w1.heap.size → wr.heap[j]? = w1.heap[j]?) ∧ wr.heap[w1.heap.size]? = some (.cells (intCells (numsTo (numT S key m ps) vs k)) 3)) (fun i _ => vs.length - (intOf i).toNat)
  case atStart => exact ⟨0, Nat.zero_le _, rfl, hB2, by simp, fun j hj => Below.heap_alloc _ _ _ hj, hb0⟩
  case round =>
    obtain ⟨k, hk, rfl, hB, hsz1, hold, hnb⟩ := hrel
    have hsr : SlK strsK 1 wr (fun j => w.heap.size ≤ j ∧ j < w1.heap.size) (.slice Av vs.length cv) vs := SlK.move strOk HSL.out (fun j hj => hold j hj.2)
    by_cases hkl : k < vs.length
    · obtain ⟨b, off, c', he, _, _, hbk, hbl, hce⟩ := hsr.addr (by omega)
      simp only [Value.slice.injEq] at he
      obtain ⟨rfl, -, rfl⟩ := he
      obtain ⟨cs, hcs, hcl, hcc⟩ := hce k hkl
      have hcx := hcc 0 (.string (vs[k]'hkl)) (by cases hcs; rfl)
      simp only [Nat.mul_one, Nat.add_zero] at hcx
      have HB := Lib.hid hB
      have HO := Lib.hid hold
      have HNB := Lib.hid hnb
      have HDr := Lib.hid (HD.out.below hB)
      have HPr := Lib.hid (HP.out.move (w' := wr) (fun j hj _ => hB.block j (HOKP.out j hj)) (fun _ hj _ => hj))
      clear hce hcc hcs hcl hsr hB hold hnb hb0 hB2
      go_wp2_with fail
      refine area_d _ _ h own S key (vs[k]'hkl) HDr.out ?_
      intro v1 v2 w3 g3 hA hPp
      have l2 := area_pods v1 v2 w3
      have HG3 := Lib.hid g3
      have HPp := Lib.hid hPp
      clear g3 hPp hA
      go_wp2_with fail
      refine and_k _ _ (fun j => j < w3.heap.size) v2 vp (setA S (key, vs[k]'hkl)).2.1 m (setA S (key, vs[k]'hkl)).2.2 ps (fun _ hj => hj) HPp.out.any (HPr.out.any.move (fun j hj _ => HG3.out.block j hj) (fun j hj _ => Nat.lt_of_lt_of_le hj HG3.out.size)) ?_
      intro s b2 w4 g4 g5 g6 hS4
      have HG4 := Lib.hid g4
      have HS4 := Lib.hid hS4
      have hb4 := HG3.out.trans (g4.mono HG3.out.size)
      have HB4 := Lib.hid hb4
      clear g4 g5 g6 hS4 hb4
      go_wp2_with fail
      refine bcount_p _ _ (fun _ => True) _ _ _ (.inr ⟨s, b2, rfl, HS4.out, trivial, trivial⟩) (by have := setA_n S (key, vs[k]'hkl); unfold setA at this ⊢; rcases hm64 with rfl | rfl <;> (split <;> first | rfl | decide | simp)) ?_
      have nb4 : w4.heap[w1.heap.size]? = some (.cells (intCells (numsTo (numT S key m ps) vs k)) 3) := (HB4.out.block _ hsz1).trans HNB.out
      have hlk : k < (numsTo (numT S key m ps) vs k).length := by rw [numsTo_length _ _ _ hk]; exact hkl
      have e0 : w4.cell? ⟨w1.heap.size, k, none⟩ = some (.int .i64 ((numsTo (numT S key m ps) vs k)[k]'hlk)) := cell_at nb4 (by simp [intCells, hlk])
      have e1 : w4.frozen? ⟨w1.heap.size, k, none⟩ = false := by simp [World.frozen?, nb4]
      have hset : (w4.setCell ⟨w1.heap.size, k, none⟩ (.int .i64 (numT S key m ps (vs[k]'hkl)))).heap[w1.heap.size]? = some (.cells (intCells (numsTo (numT S key m ps) vs (k + 1))) 3) := by
        rw [← numsTo_set _ _ _ hkl]
        simp only [World.setCell, Array.getElem?_modify]
        simp [nb4, intCells, List.map_set]
      have hother : ∀ j, j < wr.heap.size → j ≠ w1.heap.size → (w4.setCell ⟨w1.heap.size, k, none⟩ (.int .i64 (numT S key m ps (vs[k]'hkl)))).heap[j]? = wr.heap[j]? := fun j hj hne => (Below.heap_setCell _ _ _ _ hne).trans (HB4.out.block j hj)
      have hbel : Below w.heap.size w (w4.setCell ⟨w1.heap.size, k, none⟩ (.int .i64 (numT S key m ps (vs[k]'hkl)))) := (HB.out.trans (HB4.out.mono HB.out.size)).setCell (p := ⟨w1.heap.size, k, none⟩) hs1 _
      have hss : w1.heap.size < (w4.setCell ⟨w1.heap.size, k, none⟩ (.int .i64 (numT S key m ps (vs[k]'hkl)))).heap.size := by have := HB4.out.size; simp [World.setCell]; omega
      have H1 := Lib.hid hset
      have H2 := Lib.hid hother
      have H3 := Lib.hid hbel
      have H4 := Lib.hid hss
      clear hset hother hbel hss nb4
      go_wp2_with fail
      go_roundw
      case rel => exact ⟨k + 1, by omega, by go_num, H3.out, H4.out, fun j hj => (H2.out j (by omega) (by omega)).trans (HO.out j hj), H1.out⟩
      case measure => simp [intOf]; omega
    · obtain rfl : k = vs.length := by omega
      rw [numsTo_all] at hnb
      have hi2 := ints_sl (ok := fun j => w.heap.size ≤ j) hnb hs1 (by simp; omega)
      rw [List.length_map] at hi2
      have hv := HR.out _ _ ks wr hB HND.out HKS.out (by rw [HVS.out]; exact SlK.mono strOk hsr (fun j hj => hj.1)) (by rw [HVS.out]; exact hi2)
      clear hnb hi2 hsr hold hB hb0 hB2
      go_wp2_with fail
      exact hv
end Go.Proofs.YtmenipaibjifiaaGreatDoor

namespace Go.Proofs.YtmenipaibjifiaaGreatDoor
open Go.RowKit Go.BigFrame

def rankOne (S : St) (key : ByteArray) (c n : Int) (m : Nat) (ps : List Nat) (ws : List Nat) (v : ByteArray) : List Nat :=
  if standsB (numT S key m ps v) c n then zipW (· ||| ·) 8 ws (setA S (key, v)).1.2 else ws
def rankF (S : St) (key : ByteArray) (c n : Int) (m : Nat) (ps : List Nat) (vs : List ByteArray) : List Nat := vs.foldl (rankOne S key c n m ps) (List.replicate 8 0)
theorem rankFold_length (S : St) (key : ByteArray) (c n : Int) (m : Nat) (ps : List Nat) : ∀ (vs : List ByteArray) (ws : List Nat), ws.length = 8 → (vs.foldl (rankOne S key c n m ps) ws).length = 8
  | [], ws, h => h
  | v :: r, ws, h => by
    rw [List.foldl_cons]
    refine rankFold_length S key c n m ps r _ ?_
    unfold rankOne
    split
    · rw [zipW_length]
    · exact h

set_option maxRecDepth 100000 in
set_option maxHeartbeats 4000000 in
theorem ranked_d (R : Ending → World → Prop) (w : World) (h : Hdr) (own : Own') (S : St) (key : ByteArray) (okp : Nat → Prop) (vp : Value) (m : Nat) (ps : List Nat) (c n : Int) (D : DomAt w h own S) (hP : SetP w okp vp m ps) (hokp : ∀ k, okp k → k < w.heap.size) (hm64 : m = 0 ∨ m = 2048)
    (hsz : ∀ v, (innerG S key v).isSome = true → v.size ≤ 1048576) (hnum : ∀ ks : List ByteArray, ks.Nodup → (∀ k, k ∈ ks → (innerG S key k).isSome = true) → ks.length ≤ 1048576)
    (hR : ∀ s b ks w', Below w.heap.size w w' → w.heap.size ≤ s → w.heap.size ≤ b → ks.Nodup → (∀ k, k ∈ ks ↔ (innerG S key k).isSome = true) → SetIn w' s b 512 (rankF S key c n m ps (sortedK ks)) → R (.returned (.pointer (some ⟨s, 0, none⟩))) w') :
    Calls Tryz.prog 28 #[.pointer (some ⟨h.d, 0, none⟩), .string key, vp, .int .i64 c, .int .i64 n] w R := by
  have HR := Lib.hid hR
  have HD := Lib.hid D
  have HP := Lib.hid hP
  have HOKP := Lib.hid hokp
  have hlim : ∀ k, w.heap.size ≤ k → own k = none := D.lim
  clear hR D hP hokp
  go_enter Tryz.func28, Tryz.ntmps28
  go_wp2_with fail
  refine bitmap_k _ _ 512 (by decide) ?_
  intro s b w1 g1 g2 g3 hS1
  have HG1 := Lib.hid g1
  have HS1 := Lib.hid hS1
  have hb1 := hS1.lt
  have hs1 := g1.size
  clear g1 hS1
  go_wp2_with fail
  refine tally_d _ _ h own S key okp vp m ps (HD.out.below HG1.out) (HP.out.move (fun k hk _ => HG1.out.block k (HOKP.out k hk)) (fun _ hk _ => hk)) (fun k hk => Nat.lt_of_lt_of_le (HOKP.out k hk) hs1) hm64 hsz hnum ?_
  intro v nv ks w2 g4 hnd hks hsl hnl
  have hkl : ks.length ≤ 1048576 := hnum ks hnd (fun k hk => (hks k).1 hk)
  obtain ⟨vs, hvs⟩ : ∃ vs, sortedK ks = vs := ⟨_, rfl⟩
  have hvl : vs.length ≤ 1048576 := by rw [← hvs]; simp [sortedK, List.length_mergeSort]; exact hkl
  rw [hvs] at hsl hnl
  obtain ⟨Av, cv, ev, hcv, _⟩ := hsl.form
  obtain ⟨An, cn, en, hcn, _⟩ := hnl.form
  subst ev
  subst en
  rw [List.length_map] at hcn
  have HG4 := Lib.hid g4
  have HND := Lib.hid hnd
  have HKS := Lib.hid hks
  have HVS := Lib.hid hvs
  have HSL := Lib.hid (hsl.bnd strOk)
  have HNL := Lib.hid (hnl.bnd intOk)
  have hB2 := HG1.out.trans (g4.mono hs1)
  have HB2 := Lib.hid hB2
  have hS2 := HS1.out.move (w' := w2) (g4.block _ hb1.1) (g4.block _ hb1.2)
  have HS2 := Lib.hid hS2
  have hs2 := g4.size
  clear g4 hnd hks hvs hsl hnl hnum hsz hkl hB2 hS2
  simp only [List.length_map]
  go_wp2_with fail
  go_loopw [26] (fun i wr => ∃ k : Nat, k ≤ vs.length ∧ i = .int .i64 k ∧ Mod (fun j => j = b) w2 wr ∧ SetIn wr s b 512 ((vs.take k).foldl (rankOne S key c n m ps) (List.replicate 8 0))) (fun i _ => vs.length - (intOf i).toNat)
  case atStart => exact ⟨0, Nat.zero_le _, rfl, Mod.refl _ _, HS2.out⟩
  case round =>
    obtain ⟨k, hk, rfl, hM, hSr⟩ := hrel
    have hsr : SlK strsK 1 wr (fun j => w1.heap.size ≤ j ∧ j < w2.heap.size) (.slice Av vs.length cv) vs := SlK.move strOk HSL.out (fun j hj => hM.block j hj.2 (by have := hj.1; omega))
    have hnr : SlK intsK 1 wr (fun j => w1.heap.size ≤ j ∧ j < w2.heap.size) (.slice An (vs.map (numT S key m ps)).length cn) (vs.map (numT S key m ps)) := SlK.move intOk HNL.out (fun j hj => hM.block j hj.2 (by have := hj.1; omega))
    have hBr : Below w.heap.size w wr := HB2.out.trans (hM.below (B := w.heap.size) (by omega) (fun j e => by rw [e]; exact g3))
    by_cases hkl : k < vs.length
    · obtain ⟨b3, off, c', he, _, _, hbk, hbl, hce⟩ := hsr.addr (by omega)
      simp only [Value.slice.injEq] at he
      obtain ⟨rfl, -, rfl⟩ := he
      obtain ⟨cs, hcs, hcl, hcc⟩ := hce k hkl
      have hcx := hcc 0 (.string (vs[k]'hkl)) (by cases hcs; rfl)
      simp only [Nat.mul_one, Nat.add_zero] at hcx
      have hkn : k < (vs.map (numT S key m ps)).length := by rw [List.length_map]; exact hkl
      obtain ⟨b4, off4, c4', he4, _, _, hbk4, hbl4, hce4⟩ := hnr.addr (by omega)
      simp only [Value.slice.injEq] at he4
      obtain ⟨rfl, -, rfl⟩ := he4
      obtain ⟨cs4, hcs4, hcl4, hcc4⟩ := hce4 k hkn
      have hcy := hcc4 0 (.int .i64 (numT S key m ps (vs[k]'hkl))) (by cases hcs4; simp [intC])
      simp only [Nat.mul_one, Nat.add_zero] at hcy
      have e1 : (vs.take (k + 1)).foldl (rankOne S key c n m ps) (List.replicate 8 0) = rankOne S key c n m ps ((vs.take k).foldl (rankOne S key c n m ps) (List.replicate 8 0)) (vs[k]'hkl) := by
        rw [List.take_succ_eq_append_getElem hkl, List.foldl_append]; rfl
      have HE1 := Lib.hid e1
      have HM := Lib.hid hM
      have HSr := Lib.hid hSr
      have HBr := Lib.hid hBr
      have hfl := rankFold_length S key c n m ps (vs.take k) (List.replicate 8 0) (by simp)
      have HFL := Lib.hid hfl
      clear hce hcc hcs hcl hce4 hcc4 hcs4 hcl4 e1 hM hSr hBr hsr hnr hfl
      cases hst : standsB (numT S key m ps (vs[k]'hkl)) c n with
      | false =>
        have er : rankOne S key c n m ps ((vs.take k).foldl (rankOne S key c n m ps) (List.replicate 8 0)) (vs[k]'hkl) = (vs.take k).foldl (rankOne S key c n m ps) (List.replicate 8 0) := by
          unfold rankOne; rw [hst]; simp
        have HER := Lib.hid er
        have HST := Lib.hid hst
        clear er hst
        go_wp2_with fail
        refine stands_k _ _ _ c n ?_
        rw [HST.out]
        go_wp2_with fail
        go_roundw
        case rel => exact ⟨k + 1, by omega, by go_num, HM.out, by rw [HE1.out, HER.out]; exact HSr.out⟩
        case measure => simp [intOf]; omega
      | true =>
        have er : rankOne S key c n m ps ((vs.take k).foldl (rankOne S key c n m ps) (List.replicate 8 0)) (vs[k]'hkl) = zipW (· ||| ·) 8 ((vs.take k).foldl (rankOne S key c n m ps) (List.replicate 8 0)) (setA S (key, vs[k]'hkl)).1.2 := by
          unfold rankOne; rw [hst]; simp
        have HER := Lib.hid er
        have HST := Lib.hid hst
        clear er hst
        go_wp2_with fail
        refine stands_k _ _ _ c n ?_
        rw [HST.out]
        go_wp2_with fail
        refine area_d _ _ h own S key (vs[k]'hkl) (HD.out.below HBr.out) ?_
        intro v1 v2 w3 g5 hA hPp
        have l2 := area_nodes v1 v2 w3
        have HG5 := Lib.hid g5
        have HA := Lib.hid hA
        clear g5 hPp hA
        go_wp2_with fail
        have hlt := HSr.out.lt
        refine orWith_k _ _ s b 512 _ (Owned own) v1 _ _ (HSr.out.move (HG5.out.block _ hlt.1) (HG5.out.block _ hlt.2)) (by decide) HA.out (fun e => e (hlim b g3)) ?_
        intro w4 hM4 hS4
        rw [HFL.out] at hS4
        have hM5 : Mod (fun j => j = b) w2 w4 := (HM.out.seq (Mod.of_below HG5.out).non_to).seq hM4
        have HM5 := Lib.hid hM5
        have HS4 := Lib.hid hS4
        clear hM4 hS4 hM5 hlt
        go_wp2_with fail
        go_roundw
        case rel => exact ⟨k + 1, by omega, by go_num, HM5.out, by rw [HE1.out, HER.out]; exact HS4.out⟩
        case measure => simp [intOf]; omega
    · obtain rfl : k = vs.length := by omega
      rw [List.take_length] at hSr
      have hv := HR.out s b ks wr hBr g2 g3 HND.out HKS.out (by rw [HVS.out]; exact hSr)
      clear hSr hBr hnr hsr hM
      go_wp2_with fail
      exact hv
end Go.Proofs.YtmenipaibjifiaaGreatDoor

namespace Go.Proofs.YtmenipaibjifiaaGreatDoor
open Go.RowKit Go.BigFrame

set_option maxRecDepth 100000 in
set_option maxHeartbeats 4000000 in
theorem near_d (R : Ending → World → Prop) (w : World) (h : Hdr) (own : Own') (S : St) (key : ByteArray) (okp : Nat → Prop) (vp : Value) (m : Nat) (ps : List Nat) (D : DomAt w h own S) (hP : SetP w okp vp m ps) (hokp : ∀ k, okp k → k < w.heap.size) (hm64 : m = 0 ∨ m = 2048)
    (hsz : ∀ v, (innerG S key v).isSome = true → v.size ≤ 1048576) (hnum : ∀ ks : List ByteArray, ks.Nodup → (∀ k, k ∈ ks → (innerG S key k).isSome = true) → ks.length ≤ 1048576)
    (hR : ∀ s b ks w', Below w.heap.size w w' → w.heap.size ≤ s → w.heap.size ≤ b → ks.Nodup → (∀ k, k ∈ ks ↔ (innerG S key k).isSome = true) → SetIn w' s b 512 (rankF S key 5 0 m ps (sortedK ks)) → R (.returned (.pointer (some ⟨s, 0, none⟩))) w') :
    Calls Tryz.prog 26 #[.pointer (some ⟨h.d, 0, none⟩), .string key, vp] w R := by
  have HR := Lib.hid hR
  have HD := Lib.hid D
  have HP := Lib.hid hP
  clear hR D hP
  go_enter Tryz.func26, Tryz.ntmps26
  go_wp2_with fail
  refine ranked_d _ _ h own S key okp vp m ps 5 0 HD.out HP.out hokp hm64 hsz hnum ?_
  intro s b ks w1 h1 h2 h3 h4 h5 h6
  have hv := HR.out s b ks w1 h1 h2 h3 h4 h5 h6
  clear h1 h2 h3 h4 h5 h6 hsz hnum hokp
  go_wp2_with fail
  exact hv
set_option maxRecDepth 100000 in
set_option maxHeartbeats 4000000 in
theorem tallyNil_k (R : Ending → World → Prop) (w : World) (key : ByteArray) (vp : Value)
    (hR : ∀ nv w', Below w.heap.size w w' → SlK intsK 1 w' (fun k => w.heap.size ≤ k) nv [] → R (.returned (.tuple #[.slice none 0 0, nv])) w') :
    Calls Tryz.prog 88 #[.pointer none, .string key, vp] w R := by
  have HR := Lib.hid hR
  clear hR
  obtain ⟨i0, hi, hz0, hz1, hz2⟩ := info_parts infoInt
  go_enter Tryz.func88, Tryz.ntmps88
  go_wp2_with fail
  refine valuesOfNil_k _ _ key ?_
  go_wp2_with (at_make; refine wpList_make_row _ rfl _ _ 43 rfl 3 i0 (.int .i64 0) Tryz.underlying43 hi hz0 hz1 rfl _ _ 0 rfl rfl (by rw [hz2]; omega) (by omega) ?_)
  go_loop [20] (fun i => i = .int .i64 0) (fun _ => 0)
  case atStart => rfl
  case round =>
    subst hrel
    have hv := HR.out (.slice (some ⟨w.heap.size, 0, none⟩) 0 0) _ (Below.alloc (Below.refl _ _) (Nat.le_refl _) (.cells (madeCells #[.int .i64 0] 0) 3)) ⟨_, 0, rfl, Nat.le_refl _, by unfold maxLen; omega, .inl rfl⟩
    go_wp2_with fail
    exact hv
set_option maxRecDepth 100000 in
set_option maxHeartbeats 4000000 in
theorem rankedNil_k (R : Ending → World → Prop) (w : World) (key : ByteArray) (vp : Value) (c n : Int)
    (hR : ∀ s b w', Below w.heap.size w w' → w.heap.size ≤ s → w.heap.size ≤ b → SetIn w' s b 512 (List.replicate 8 0) → R (.returned (.pointer (some ⟨s, 0, none⟩))) w') :
    Calls Tryz.prog 28 #[.pointer none, .string key, vp, .int .i64 c, .int .i64 n] w R := by
  have HR := Lib.hid hR
  clear hR
  go_enter Tryz.func28, Tryz.ntmps28
  go_wp2_with fail
  refine bitmap_k _ _ 512 (by decide) ?_
  intro s b w1 g1 g2 g3 hS1
  have HG1 := Lib.hid g1
  have HS1 := Lib.hid hS1
  have hb1 := hS1.lt
  clear g1 hS1
  go_wp2_with fail
  refine tallyNil_k _ _ key vp ?_
  intro nv w2 g4 hnl
  obtain ⟨An, cn, en, _, _⟩ := hnl.form
  subst en
  have hv := HR.out s b w2 (HG1.out.trans (g4.mono HG1.out.size)) g2 g3 (HS1.out.move (g4.block _ hb1.1) (g4.block _ hb1.2))
  clear g4 hnl
  go_wp2_with fail
  go_loop [26] (fun i => i = .int .i64 0) (fun _ => 0)
  case atStart => rfl
  case round =>
    subst hrel
    go_wp2_with fail
    exact hv
set_option maxRecDepth 100000 in
theorem nearNil_k (R : Ending → World → Prop) (w : World) (key : ByteArray) (vp : Value)
    (hR : ∀ s b w', Below w.heap.size w w' → w.heap.size ≤ s → w.heap.size ≤ b → SetIn w' s b 512 (List.replicate 8 0) → R (.returned (.pointer (some ⟨s, 0, none⟩))) w') :
    Calls Tryz.prog 26 #[.pointer none, .string key, vp] w R := by
  have HR := Lib.hid hR
  clear hR
  go_enter Tryz.func26, Tryz.ntmps26
  go_wp2_with fail
  refine rankedNil_k _ _ key vp 5 0 ?_
  intro s b w1 h1 h2 h3 h4
  have hv := HR.out s b w1 h1 h2 h3 h4
  clear h1 h2 h3 h4
  go_wp2_with fail
  exact hv
/-- An iterator over rows, at a world. -/
def RowsAt (w0 w : World) (B1 B2 : Nat) (vs : List ByteArray) (ns : List Int) : Prop :=
  ∃ sv nv, w0.heap.size ≤ B1 ∧ B1 < w.heap.size ∧ w0.heap.size ≤ B2 ∧ B2 < w.heap.size ∧ w.cell? ⟨B1, 0, none⟩ = some sv ∧ w.cell? ⟨B2, 0, none⟩ = some nv ∧ SlK strsK 1 w (fun k => w0.heap.size ≤ k ∧ k < w.heap.size) sv vs ∧ SlK intsK 1 w (fun k => w0.heap.size ≤ k ∧ k < w.heap.size) nv ns
theorem rowsAt_of {w0 w : World} {sv nv : Value} {vs : List ByteArray} {ns : List Int} (hb : w0.heap.size ≤ w.heap.size) (h1 : SlK strsK 1 w (fun k => w0.heap.size ≤ k) sv vs) (h2 : SlK intsK 1 w (fun k => w0.heap.size ≤ k) nv ns) :
    RowsAt w0 ((w.alloc (.cells #[sv] 61)).alloc (.cells #[nv] 43)) w.heap.size (w.heap.size + 1) vs ns := by
  have e1 : ((w.alloc (.cells #[sv] 61)).alloc (.cells #[nv] 43)).heap[w.heap.size]? = some (.cells #[sv] 61) := heap_keep (heap_alloc_new _ _) _
  have e2 : ((w.alloc (.cells #[sv] 61)).alloc (.cells #[nv] 43)).heap[w.heap.size + 1]? = some (.cells #[nv] 43) := by
    have := heap_alloc_new (w.alloc (.cells #[sv] 61)) (.cells #[nv] 43)
    rwa [World.size_alloc] at this
  have kp : ∀ k, k < w.heap.size → ((w.alloc (.cells #[sv] 61)).alloc (.cells #[nv] 43)).heap[k]? = w.heap[k]? := fun k hk => (Below.heap_alloc _ _ _ (by simp; omega)).trans (Below.heap_alloc _ _ _ hk)
  refine ⟨sv, nv, hb, by simp; omega, by omega, by simp, cell_at e1 rfl, cell_at e2 rfl, SlK.mono strOk (SlK.move strOk (SlK.bnd strOk h1) (fun k hk => kp k hk.2)) (fun k hk => ⟨hk.1, by have := hk.2; simp; omega⟩), SlK.mono intOk (SlK.move intOk (SlK.bnd intOk h2) (fun k hk => kp k hk.2)) (fun k hk => ⟨hk.1, by have := hk.2; simp; omega⟩)⟩
set_option maxRecDepth 100000 in
set_option maxHeartbeats 4000000 in
theorem tallyNil_r (R : Ending → World → Prop) (w : World) (key : ByteArray) (vp : Value)
    (hR : ∀ B1 B2 w', Below w.heap.size w w' → RowsAt w w' B1 B2 [] [] → R (.returned (.func (.func 156) #[] #[.pointer (some ⟨B1, 0, none⟩), .pointer (some ⟨B2, 0, none⟩)])) w') :
    Calls Tryz.prog 45 #[.pointer none, .string key, vp] w R := by
  have HR := Lib.hid hR
  clear hR
  go_enter Tryz.func45, Tryz.ntmps45
  go_wp2_with fail
  refine tallyNil_k _ _ key vp ?_
  intro nv w2 g4 hnl
  obtain ⟨An, cn, en, _, _⟩ := hnl.form
  subst en
  have hb : Below w.heap.size w ((w2.alloc (.cells #[.slice none 0 0] 61)).alloc (.cells #[.slice An ([] : List Int).length cn] 43)) := Below.alloc (g4.alloc g4.size _) (by have := g4.size; simp; omega) _
  have hv := HR.out _ _ _ hb (rowsAt_of g4.size SlK.nil hnl)
  clear g4 hnl hb
  go_wp2_with fail
  refine rows_k _ _ _ _ ⟨_, _, _, rfl⟩ ⟨_, _, _, rfl⟩ ?_
  go_wp2_with fail
  exact hv
set_option maxRecDepth 100000 in
set_option maxHeartbeats 4000000 in
theorem tally_r (R : Ending → World → Prop) (w : World) (h : Hdr) (own : Own') (S : St) (key : ByteArray) (okp : Nat → Prop) (vp : Value) (m : Nat) (ps : List Nat) (D : DomAt w h own S) (hP : SetP w okp vp m ps) (hokp : ∀ k, okp k → k < w.heap.size) (hm64 : m = 0 ∨ m = 2048)
    (hsz : ∀ v, (innerG S key v).isSome = true → v.size ≤ 1048576) (hnum : ∀ ks : List ByteArray, ks.Nodup → (∀ k, k ∈ ks → (innerG S key k).isSome = true) → ks.length ≤ 1048576)
    (hR : ∀ B1 B2 ks w', Below w.heap.size w w' → ks.Nodup → (∀ k, k ∈ ks ↔ (innerG S key k).isSome = true) → RowsAt w w' B1 B2 (sortedK ks) ((sortedK ks).map (numT S key m ps)) → R (.returned (.func (.func 156) #[] #[.pointer (some ⟨B1, 0, none⟩), .pointer (some ⟨B2, 0, none⟩)])) w') :
    Calls Tryz.prog 45 #[.pointer (some ⟨h.d, 0, none⟩), .string key, vp] w R := by
  have HR := Lib.hid hR
  have HD := Lib.hid D
  have HP := Lib.hid hP
  clear hR D hP
  go_enter Tryz.func45, Tryz.ntmps45
  go_wp2_with fail
  refine tally_d _ _ h own S key okp vp m ps HD.out HP.out hokp hm64 hsz hnum ?_
  intro v nv ks w2 g4 hnd hks hsl hnl
  obtain ⟨Av, cv, ev, _, _⟩ := hsl.form
  subst ev
  obtain ⟨An, cn, en, _, _⟩ := hnl.form
  subst en
  have hb : Below w.heap.size w ((w2.alloc (.cells #[.slice Av (sortedK ks).length cv] 61)).alloc (.cells #[.slice An ((sortedK ks).map (numT S key m ps)).length cn] 43)) := Below.alloc (g4.alloc g4.size _) (by have := g4.size; simp; omega) _
  have hv := HR.out _ _ ks _ hb hnd hks (rowsAt_of g4.size hsl hnl)
  clear g4 hnl hsl hb hnd hks hsz hnum hokp
  simp only [List.length_map] at hv ⊢
  go_wp2_with fail
  refine rows_k _ _ _ _ ⟨_, _, _, rfl⟩ ⟨_, _, _, rfl⟩ ?_
  go_wp2_with fail
  exact hv
end Go.Proofs.YtmenipaibjifiaaGreatDoor

namespace Go.Proofs.YtmenipaibjifiaaGreatDoor
open Go.RowKit Go.BigFrame

theorem toBA_data (v : ByteArray) : toBA v.data.toList = v := rfl
theorem mem_sortedK {ks : List ByteArray} {v : ByteArray} (h : v ∈ sortedK ks) : v ∈ ks := by
  unfold sortedK at h
  obtain ⟨l, hl, e⟩ := List.mem_map.1 h
  rw [List.mem_mergeSort] at hl
  obtain ⟨k, hk, rfl⟩ := List.mem_map.1 hl
  have e2 : toBA k.data.toList = v := e
  rw [toBA_data] at e2
  rw [← e2]; exact hk
set_option maxRecDepth 100000 in
set_option maxHeartbeats 4000000 in
theorem valuesNil_r (R : Ending → World → Prop) (w : World) (key : ByteArray)
    (hR : ∀ B1 B2 w', Below w.heap.size w w' → RowsAt w w' B1 B2 [] [] → R (.returned (.func (.func 156) #[] #[.pointer (some ⟨B1, 0, none⟩), .pointer (some ⟨B2, 0, none⟩)])) w') :
    Calls Tryz.prog 20 #[.pointer none, .string key] w R := by
  have HR := Lib.hid hR
  clear hR
  obtain ⟨i0, hi, hz0, hz1, hz2⟩ := info_parts infoInt
  go_enter Tryz.func20, Tryz.ntmps20
  go_wp2_with fail
  refine valuesOfNil_k _ _ key ?_
  go_wp2_with (at_make; refine wpList_make_row _ rfl _ _ 43 rfl 3 i0 (.int .i64 0) Tryz.underlying43 hi hz0 hz1 rfl _ _ 0 rfl rfl (by rw [hz2]; omega) (by omega) ?_)
  have hB : Below w.heap.size w (w.alloc (.cells (madeCells #[.int .i64 0] 0) 3)) := Below.alloc (Below.refl _ _) (Nat.le_refl _) _
  have hnl : SlK intsK 1 (w.alloc (.cells (madeCells #[.int .i64 0] 0) 3)) (fun k => w.heap.size ≤ k) (.slice (some ⟨w.heap.size, 0, none⟩) 0 0) [] := ⟨_, 0, rfl, Nat.le_refl _, by unfold maxLen; omega, .inl rfl⟩
  obtain ⟨W, hW⟩ : ∃ W, w.alloc (.cells (madeCells #[.int .i64 0] 0) 3) = W := ⟨_, rfl⟩
  rw [hW] at hB hnl ⊢
  have hb2 : Below w.heap.size w ((W.alloc (.cells #[.slice none 0 0] 61)).alloc (.cells #[.slice (some ⟨w.heap.size, 0, none⟩) 0 0] 43)) := Below.alloc (hB.alloc hB.size _) (by have := hB.size; simp; omega) _
  have hv := HR.out _ _ _ hb2 (rowsAt_of hB.size SlK.nil hnl)
  clear hb2 hnl hB hW
  go_loop [17] (fun i => i = .int .i64 0) (fun _ => 0)
  case atStart => rfl
  case round =>
    subst hrel
    go_wp2_with fail
    refine rows_k _ _ _ _ ⟨_, _, _, rfl⟩ ⟨_, _, _, rfl⟩ ?_
    go_wp2_with fail
    exact hv
def numV (S : St) (key v : ByteArray) : Int := (innerG S key v).getD 0
set_option maxRecDepth 100000 in
set_option maxHeartbeats 4000000 in
theorem values_r (R : Ending → World → Prop) (w : World) (h : Hdr) (own : Own') (S : St) (key : ByteArray) (D : DomAt w h own S)
    (hsz : ∀ v, (innerG S key v).isSome = true → v.size ≤ 1048576) (hnum : ∀ ks : List ByteArray, ks.Nodup → (∀ k, k ∈ ks → (innerG S key k).isSome = true) → ks.length ≤ 1048576)
    (hR : ∀ B1 B2 ks w', Below w.heap.size w w' → ks.Nodup → (∀ k, k ∈ ks ↔ (innerG S key k).isSome = true) → RowsAt w w' B1 B2 (sortedK ks) ((sortedK ks).map (numV S key)) → R (.returned (.func (.func 156) #[] #[.pointer (some ⟨B1, 0, none⟩), .pointer (some ⟨B2, 0, none⟩)])) w') :
    Calls Tryz.prog 20 #[.pointer (some ⟨h.d, 0, none⟩), .string key] w R := by
  have HR := Lib.hid hR
  have HD := Lib.hid D
  clear hR D
  obtain ⟨i0, hi, hz0, hz1, hz2⟩ := info_parts infoInt
  go_enter Tryz.func20, Tryz.ntmps20
  go_wp2_with fail
  refine valuesOf_d _ _ h own S key HD.out hsz (fun ks hk hks => hnum ks hk hks) ?_
  intro v ks w1 g1 hnd hks hsl
  have hkl : ks.length ≤ 1048576 := hnum ks hnd (fun k hk => (hks k).1 hk)
  obtain ⟨vs, hvs⟩ : ∃ vs, sortedK ks = vs := ⟨_, rfl⟩
  have hvl : vs.length ≤ 1048576 := by rw [← hvs]; simp [sortedK, List.length_mergeSort]; exact hkl
  have hmem : ∀ u, u ∈ vs → (innerG S key u).isSome = true := fun u hu => (hks u).1 (mem_sortedK (by rw [hvs]; exact hu))
  rw [hvs] at hsl
  obtain ⟨Av, cv, ev, hcv, _⟩ := hsl.form
  subst ev
  have HG1 := Lib.hid g1
  have HND := Lib.hid hnd
  have HKS := Lib.hid hks
  have HVS := Lib.hid hvs
  have HMEM := Lib.hid hmem
  have HSL := Lib.hid (hsl.bnd strOk)
  clear g1 hnd hks hvs hsl hnum hsz hkl hmem
  go_wp2_with (at_make; refine wpList_make_row _ rfl _ _ 43 rfl 3 i0 (.int .i64 0) Tryz.underlying43 hi hz0 hz1 rfl _ _ vs.length rfl rfl (by rw [hz2]; omega) (by omega) ?_)
  have hb0 : (w1.alloc (.cells (madeCells #[.int .i64 0] vs.length) 3)).heap[w1.heap.size]? = some (.cells (intCells (numsTo (numV S key) vs 0)) 3) := by
    rw [heap_alloc_new]
    congr 2
    apply Array.ext
    · simp [madeCells, intCells, numsTo]
    · intro i h1 h2
      simp [madeCells, Nat.mod_one, intCells, numsTo]
  have hB2 : Below w.heap.size w (w1.alloc (.cells (madeCells #[.int .i64 0] vs.length) 3)) := HG1.out.alloc HG1.out.size _
  have hs1 := HG1.out.size
  go_loopw [17] (fun i wr => ∃ k : Nat, k ≤ vs.length ∧ i = .int .i64 k ∧ Below w.heap.size w wr ∧ w1.heap.size < wr.heap.size ∧ (∀ j, j < w1.heap.size → wr.heap[j]? = w1.heap[j]?) ∧ wr.heap[w1.heap.size]? = some (.cells (intCells (numsTo (numV S key) vs k)) 3)) (fun i _ => vs.length - (intOf i).toNat)
  case atStart => exact ⟨0, Nat.zero_le _, rfl, hB2, by simp, fun j hj => Below.heap_alloc _ _ _ hj, hb0⟩
  case round =>
    obtain ⟨k, hk, rfl, hB, hsz1, hold, hnb⟩ := hrel
    have hsr : SlK strsK 1 wr (fun j => w.heap.size ≤ j ∧ j < w1.heap.size) (.slice Av vs.length cv) vs := SlK.move strOk HSL.out (fun j hj => hold j hj.2)
    by_cases hkl : k < vs.length
    · obtain ⟨b, off, c', he, _, _, hbk, hbl, hce⟩ := hsr.addr (by omega)
      simp only [Value.slice.injEq] at he
      obtain ⟨rfl, -, rfl⟩ := he
      obtain ⟨cs, hcs, hcl, hcc⟩ := hce k hkl
      have hcx := hcc 0 (.string (vs[k]'hkl)) (by cases hcs; rfl)
      simp only [Nat.mul_one, Nat.add_zero] at hcx
      have Dr := HD.out.below hB
      have c4 : wr.cell? ⟨h.d, 4, none⟩ = some (.map (some h.v)) := cell_at Dr.hd rfl
      obtain ⟨m, hm, hmf⟩ := Dr.fv
      have hat := hmf key
      have l1 := hm.lookup strK Tryz.underlying122 (z := .map none) (by kernel_rfl) key false
      simp only [Bool.false_eq_true, if_false] at l1
      have hin := HMEM.out (vs[k]'hkl) (List.getElem_mem hkl)
      obtain ⟨g, hV⟩ : ∃ g, S.values key = some g := by
        cases hV : S.values key with
        | some g => exact ⟨g, rfl⟩
        | none => unfold innerG at hin; rw [hV] at hin; simp at hin
      rw [hV] at hat
      obtain ⟨v0, hv0, bI, rfl, oI, mi, hmi, hfi⟩ := hat.some_l
      rw [hv0] at l1
      simp only [Option.getD_some] at l1
      have hig : innerG S key = g := by unfold innerG; rw [hV]
      have hq : (aget mi (vs[k]'hkl)).getD (.int .i64 0) = .int .i64 (numV S key (vs[k]'hkl)) := by
        unfold numV
        rw [hig]
        have := hfi (vs[k]'hkl)
        cases e1 : aget mi (vs[k]'hkl) <;> cases e2 : g (vs[k]'hkl) <;> rw [e1, e2] at this
        · rfl
        · exact this.elim
        · exact this.elim
        · exact this
      have l2 := hmi.lookup strK Tryz.underlying159 (z := .int .i64 0) (by kernel_rfl) (vs[k]'hkl) false
      rw [hq] at l2
      simp only [Bool.false_eq_true, if_false] at l2
      have hlk : k < (numsTo (numV S key) vs k).length := by rw [numsTo_length _ _ _ hk]; exact hkl
      have e0 : wr.cell? ⟨w1.heap.size, k, none⟩ = some (.int .i64 ((numsTo (numV S key) vs k)[k]'hlk)) := cell_at hnb (by simp [intCells, hlk])
      have e1 : wr.frozen? ⟨w1.heap.size, k, none⟩ = false := by simp [World.frozen?, hnb]
      have hset : (wr.setCell ⟨w1.heap.size, k, none⟩ (.int .i64 (numV S key (vs[k]'hkl)))).heap[w1.heap.size]? = some (.cells (intCells (numsTo (numV S key) vs (k + 1))) 3) := by
        rw [← numsTo_set _ _ _ hkl]
        simp only [World.setCell, Array.getElem?_modify]
        simp [hnb, intCells, List.map_set]
      have hother : ∀ j, j < w1.heap.size → (wr.setCell ⟨w1.heap.size, k, none⟩ (.int .i64 (numV S key (vs[k]'hkl)))).heap[j]? = w1.heap[j]? := fun j hj => (Below.heap_setCell _ _ _ _ (show j ≠ w1.heap.size by omega)).trans (hold j hj)
      have hbel : Below w.heap.size w (wr.setCell ⟨w1.heap.size, k, none⟩ (.int .i64 (numV S key (vs[k]'hkl)))) := hB.setCell (p := ⟨w1.heap.size, k, none⟩) hs1 _
      have hss : w1.heap.size < (wr.setCell ⟨w1.heap.size, k, none⟩ (.int .i64 (numV S key (vs[k]'hkl)))).heap.size := by simp [World.setCell]; omega
      have H1 := Lib.hid hset
      have H2 := Lib.hid hother
      have H3 := Lib.hid hbel
      have H4 := Lib.hid hss
      clear hset hother hbel hss hce hcc hcs hcl hsr hB hold hnb hb0 hB2 Dr hm hmf hat hin hV hv0 hmi hfi hig hq
      go_wp2_with fail
      go_roundw
      case rel => exact ⟨k + 1, by omega, by go_num, H3.out, H4.out, H2.out, H1.out⟩
      case measure => simp [intOf]; omega
    · obtain rfl : k = vs.length := by omega
      rw [numsTo_all] at hnb
      have hi2 := ints_sl (ok := fun j => w.heap.size ≤ j) hnb hs1 (by simp; omega)
      rw [List.length_map] at hi2
      have hb : Below w.heap.size w ((wr.alloc (.cells #[.slice Av vs.length cv] 61)).alloc (.cells #[.slice (some ⟨w1.heap.size, 0, none⟩) vs.length vs.length] 43)) := Below.alloc (hB.alloc hB.size _) (by have := hB.size; simp; omega) _
      have hv := HR.out _ _ ks _ hb HND.out HKS.out (by rw [HVS.out]; exact rowsAt_of hB.size (SlK.mono strOk hsr (fun j hj => hj.1)) hi2)
      clear hnb hi2 hsr hold hB hb0 hB2 hb
      go_wp2_with fail
      refine rows_k _ _ _ _ ⟨_, _, _, rfl⟩ ⟨_, _, _, rfl⟩ ?_
      go_wp2_with fail
      exact hv
end Go.Proofs.YtmenipaibjifiaaGreatDoor
