/-
berthlaw09: rows.
berthlaw09: sets.
-/
import Derived.Test.YtmenipaibjifiaaGreatDoorA44
set_option linter.unusedVariables false
set_option linter.unusedSimpArgs false
namespace Go.Proofs.YtmenipaibjifiaaGreatDoor
open Go.RowKit Go.BigFrame Go.Shelf
attribute [local go_sem] Oper.semAt_some

theorem RowsAt.from {w0 w1 w : World} {B1 B2 : Nat} {vs : List ByteArray} {ns : List Int} (h : RowsAt w1 w B1 B2 vs ns) (hs : w0.heap.size ≤ w1.heap.size) : RowsAt w0 w B1 B2 vs ns := by
  obtain ⟨sv, nv, h1, h2, h3, h4, h5, h6, h7, h8⟩ := h
  exact ⟨sv, nv, by omega, h2, by omega, h4, h5, h6, SlK.mono strOk h7 (fun k hk => ⟨by omega, hk.2⟩), SlK.mono intOk h8 (fun k hk => ⟨by omega, hk.2⟩)⟩
theorem RowsAt.below {w0 w w' : World} {B1 B2 : Nat} {vs : List ByteArray} {ns : List Int} (h : RowsAt w0 w B1 B2 vs ns) (hb : Below w.heap.size w w') : RowsAt w0 w' B1 B2 vs ns := by
  obtain ⟨sv, nv, h1, h2, h3, h4, h5, h6, h7, h8⟩ := h
  have hs := hb.size
  have hm := Mod.of_below hb
  exact ⟨sv, nv, h1, by omega, h3, by omega, hm.cell' h5 (fun h => h), hm.cell' h6 (fun h => h), SlK.mono strOk (SlK.below strOk h7 hb (fun k hk => hk.2)) (fun k hk => ⟨hk.1, by omega⟩), SlK.mono intOk (SlK.below intOk h8 hb (fun k hk => hk.2)) (fun k hk => ⟨hk.1, by omega⟩)⟩
theorem rrow_cells {w : World} {ok : Nat → Prop} {b off : Nat} {l : List RRow} (h : ∀ j (hj : j < l.length), ∃ cs, rrowK w ok (l[j]'hj) cs ∧ cs.length = 2 ∧ ∀ i u, cs[i]? = some u → w.cell? ⟨b, off + (j * 2 + i), none⟩ = some u) (k : Nat) (hk : k < l.length) :
    w.cell? ⟨b, off + k * 2, none⟩ = some (.string (l[k]'hk).value) ∧ w.cell? ⟨b, off + k * 2 + 1, none⟩ = some (.int .i64 (l[k]'hk).n) := by
  obtain ⟨cs, h1, _, hc⟩ := h k hk
  cases h1
  exact ⟨hc 0 _ rfl, hc 1 _ rfl⟩
theorem run_equalIn_func_nil {P : Program} (w : World) (d : Nat) {t : TypeId} {a b : Array TypeId} {c : Bool} (f : Fn) (x y : Array Value) (h : P.underlying t = some (.func a b c)) : (Op.equalIn (d + 1) t (.func f x y) .nilFunc).run P w = .ok false w := by
  simp [Op.equalIn, run_underlying h]
theorem run_eql_func_nil {P : Program} (w : World) {t : TypeId} {a b : Array TypeId} {c : Bool} (f : Fn) (x y : Array Value) (h : P.underlying t = some (.func a b c)) : (binOp .eql t (.func f x y) .nilFunc).run P w = .ok (.bool false) w := by
  simp only [binOp]
  simp [Op.equal, Op.maxDepth, run_equalIn_func_nil w 9999 f x y h]
theorem rows_not_nil (w : World) (B1 B2 : Nat) : (binOp .eql 64 (fnRows B1 B2) .nilFunc).run Tryz.prog w = .ok (.bool false) w := run_eql_func_nil w _ _ _ Tryz.underlying64
theorem _root_.Go.RowKit.Below.keep_ {w w' : World} (h : Below w.heap.size w w') {b : Nat} {o : Obj} (ho : w.heap[b]? = some o) : w'.heap[b]? = some o := (h.block b (Array.getElem?_eq_some_iff.1 ho).1).trans ho
/-- The rounds so far: the counter's cell. -/
def RowI (wd : World) (bi : Nat) (want : List RRow) (pre : List (ByteArray × Int)) (W : World) : Prop :=
  pre <+: want.map rowP ∧ Mod (fun k => k = bi) wd W ∧ W.heap[bi]? = some (.cells #[.int .i64 (pre.length : Nat)] 3)
theorem rowI_own {wd : World} {bi : Nat} {want : List RRow} {B : Nat} (hB : wd.heap.size ≤ B) (hbi : bi < wd.heap.size) : OwnFrom B (RowI wd bi want) := by
  rintro s W W' row ⟨h1, h2, h3⟩ hg hr
  have hX : Mod (fun k => row = some k) W W' := ⟨hg.os, hg.tape, hg.output, hg.size, fun k hk hne => hg.block k hk (fun e => hne e.symm)⟩
  refine ⟨h1, h2.trans hX (fun i hi e => ?_), hX.keep h3 (fun e => ?_)⟩
  · have := (hr i e).1
    omega
  · have := (hr bi e).1
    omega
set_option maxRecDepth 100000 in
set_option maxHeartbeats 40000000 in
theorem lawRows_k (R : Ending → World → Prop) (w : World) (dv : Value) (d : RDom) (x : AskD) (vp vw : Value) (want : List RRow) (ok : Nat → Prop) (Q : Asked w dv d) (hok : ∀ k, ok k → k < w.heap.size) (hvp : SlK intsK 1 w ok vp x.pods) (hpl : x.pods.length ≤ 1073741824)
    (hw : SlK rrowK 2 w ok vw want) (hwant : want = if x.kind = 8 then rTallyL d x.key x.pods else rValuesL d x.key)
    (hR : ∀ w', Below w.heap.size w w' → R (.returned (.bool true)) w') :
    Calls Tryz.prog 63 #[dv, .agg (askC x vp), vw] w R := by
  have HR := Lib.hid hR
  have HQ := Lib.hid Q
  have HOK := Lib.hid hok
  have HVP := Lib.hid hvp
  have HW := Lib.hid hw
  have HWT := Lib.hid hwant
  obtain ⟨Ap, cp, ep, hlp, _⟩ := hvp.form
  subst ep
  obtain ⟨Aw, cw, ew, hlw, _⟩ := hw.form
  subst ew
  clear hR Q hok hvp hw hwant
  refine callsIn_wide.1 (callsIn_of_wp_marks (n := 6) Tryz.func63 rfl trivial ?_ rfl)
  refine wpIn_wide.2 ?_
  simp only [Tryz.ntmps63, List.size_toArray, List.length_cons, List.length_nil, Nat.reduceAdd, Nat.reduceSub, Array.replicate_succ, Array.replicate_zero, List.push_toArray, List.append_toArray, List.nil_append, List.cons_append]
  let hbp := bodyPost Tryz.prog Tryz.f63 R
  have o0 : (((w.alloc (.cells (askC x (.slice Ap x.pods.length cp)) 45)).alloc (.cells #[.slice Aw want.length cw] 146)).alloc (.cells #[.bool false] 4)).heap[w.heap.size]? = some (.cells (askC x (.slice Ap x.pods.length cp)) 45) := heap_keep (heap_keep (heap_alloc_new _ _) _) _
  have o1 : (((w.alloc (.cells (askC x (.slice Ap x.pods.length cp)) 45)).alloc (.cells #[.slice Aw want.length cw] 146)).alloc (.cells #[.bool false] 4)).heap[w.heap.size + 1]? = some (.cells #[.slice Aw want.length cw] 146) := by
    have := heap_alloc_new (w.alloc (.cells (askC x (.slice Ap x.pods.length cp)) 45)) (.cells #[.slice Aw want.length cw] 146)
    rw [World.size_alloc] at this
    exact heap_keep this _
  have o2 : (((w.alloc (.cells (askC x (.slice Ap x.pods.length cp)) 45)).alloc (.cells #[.slice Aw want.length cw] 146)).alloc (.cells #[.bool false] 4)).heap[w.heap.size + 2]? = some (.cells #[.bool false] 4) := by
    have := heap_alloc_new ((w.alloc (.cells (askC x (.slice Ap x.pods.length cp)) 45)).alloc (.cells #[.slice Aw want.length cw] 146)) (.cells #[.bool false] 4)
    rwa [World.size_alloc, World.size_alloc] at this
  have hB0 : Below w.heap.size w (((w.alloc (.cells (askC x (.slice Ap x.pods.length cp)) 45)).alloc (.cells #[.slice Aw want.length cw] 146)).alloc (.cells #[.bool false] 4)) := Below.alloc (Below.alloc (Below.alloc (Below.refl _ _) (Nat.le_refl _) _) (by simp) _) (by simp; omega) _
  go_upto_region 1 with fail
  generalize hW0 : ((w.alloc (.cells (askC x (.slice Ap x.pods.length cp)) 45)).alloc (.cells #[.slice Aw want.length cw] 146)).alloc (.cells #[.bool false] 4) = w0 at *
  clear hW0
  have HB0 := Lib.hid hB0
  have hs0 := hB0.size
  have q0 : w0.cell? ⟨w.heap.size, 0, none⟩ = some (.int .i64 x.kind) := cell_at o0 rfl
  have q1 : w0.cell? ⟨w.heap.size, 1, none⟩ = some (.string x.key) := cell_at o0 rfl
  have q6 : w0.cell? ⟨w.heap.size, 6, none⟩ = some (.slice Ap x.pods.length cp) := cell_at o0 rfl
  have hw2 : w.heap.size + 2 < w0.heap.size := (Array.getElem?_eq_some_iff.1 o2).1
  clear hB0 o0
  go_wp2_with fail
  refine HQ.out.values _ _ x.key HB0.out ?_
  intro B1 B2 vs ns w1 g1 hr1 hln hvl hz
  have HG1 := Lib.hid g1
  have HR1 := Lib.hid hr1
  have HZ := Lib.hid hz
  have HLN := Lib.hid hln
  have q0w := (Mod.of_below g1).cell' q0 (fun h => h)
  have q1w := (Mod.of_below g1).cell' q1 (fun h => h)
  have q6w := (Mod.of_below g1).cell' q6 (fun h => h)
  have hs1 := g1.size
  clear g1 hr1 hz hln q0 q1 q6
  go_upto_region 2 with fail
  go_cut [7, 17] (fun v v17 wr => v = fnRows B1 B2 ∧ v17 = .bool (x.kind == 8) ∧ w1 = wr)
  case first =>
    go_wp2_with fail
    go_meet
    exact ⟨rfl, rfl, rfl⟩
  obtain ⟨rfl, rfl, rfl⟩ := hcut
  go_step
  go_cut [7] (fun v wr => ∃ B1 B2 vs ns, v = fnRows B1 B2 ∧ RowsAt w0 wr B1 B2 vs ns ∧ ns.length = vs.length ∧ vs.length ≤ 1048576 ∧ vs.zip ns = want.map rowP ∧ Below w0.heap.size w0 wr)
  case first =>
    by_cases hk : x.kind = 8
    · have hwt := HWT.out
      rw [if_pos hk] at hwt
      have HWQ := Lib.hid hwt
      have hk2 : (x.kind == 8) = true := by simpa using hk
      clear hwt hk
      have hbw := HB0.out.trans (HG1.out.mono hs0)
      have HBW := Lib.hid hbw
      have HP1 := Lib.hid (HVP.out.below intOk hbw HOK.out)
      have HO1 := Lib.hid (show ∀ k, ok k → k < w1.heap.size from fun k h => Nat.lt_of_lt_of_le (HOK.out k h) hbw.size)
      have hsw := hbw.size
      clear hbw
      have HK := Lib.hid (show ∀ w', Below w1.heap.size w1 w' → Below w1.heap.size w1 w' ∧ w'.cell? ⟨w.heap.size, 1, none⟩ = some (.string x.key) ∧ w'.cell? ⟨w.heap.size, 6, none⟩ = some (.slice Ap x.pods.length cp) from
        fun w' hw => ⟨hw, (Mod.of_below hw).cell' q1w (fun h => h), (Mod.of_below hw).cell' q6w (fun h => h)⟩)
      go_wp2_with fail
      go_region_held3 (fun w' => Below w1.heap.size w1 w' ∧ w'.cell? ⟨w.heap.size, 1, none⟩ = some (.string x.key) ∧ w'.cell? ⟨w.heap.size, 6, none⟩ = some (.slice Ap x.pods.length cp))
        (first
        | exact HK.out _ (Below.refl _ w1).drew
        | exact HK.out _ y1
        | exact HK.out _ z1)
        (first
        | (go_at_call 27; refine marks_k _ _ ok _ x.pods (fun k h => HO1.out k h) (SlK.move intOk HP1.out (fun _ _ => rfl)) hpl ?_; intro vm w2 g2 hm2
           have y1 : Below w1.heap.size w1 w2 := Below.of_drew g2)
        | (go_at_call 45; refine HQ.out.tally _ _ x.key _ vm x.pods (HBW.out.trans (y1.mono hsw)) hm2 (fun k h => h.2) ?_; intro B3 B4 vs2 ns2 w3 g3 hr3 hln3 hvl3 hz3
           have z1 : Below w1.heap.size w1 w3 := y1.trans (g3.mono y1.size)))
      all_goals (
        go_wp2_with fail
        go_meet
        exact ⟨B3, B4, vs2, ns2, rfl, hr3.from (Nat.le_trans hs1 y1.size), hln3, hvl3, by rw [HWQ.out]; exact hz3, HG1.out.trans (z1.mono hs1)⟩)
    · have hwt := HWT.out
      rw [if_neg hk] at hwt
      have HWQ := Lib.hid hwt
      have hk2 : (x.kind == 8) = false := by simpa using hk
      clear hwt hk
      go_wp2_with fail
      go_meet
      exact ⟨B1, B2, vs, ns, rfl, HR1.out, HLN.out, hvl, by rw [HWQ.out]; exact HZ.out, HG1.out⟩
  case rest =>
    clear q0w q1w q6w hvl HR1 HZ HLN HG1 hs1
    obtain ⟨B1', B2', vs', ns', rfl, hr, hln, hvl', hz, hB⟩ := hcut
    have hsw := hB.size
    have o1w := (hB.block (w.heap.size + 1) (by omega)).trans o1
    have o2w := (hB.block (w.heap.size + 2) (by omega)).trans o2
    have HO1W := Lib.hid o1w
    have HO2W := Lib.hid o2w
    have HBB := Lib.hid hB
    have HRR := Lib.hid hr
    have HZZ := Lib.hid hz
    clear hB hr hz o1 o2 o1w o2w
    have zf := rows_not_nil wc B1' B2'
    go_wp2_with fail
    obtain ⟨sv, nv, hA1, hA2, hA3, hA4, hc1, hc2, hI1, hI2⟩ := HRR.out
    have d0 := heap_alloc_new wc (.cells #[.int .i64 0] 3)
    have hD : Below wc.heap.size wc (wc.alloc (.cells #[.int .i64 0] 3)) := Below.alloc (Below.refl _ _) (Nat.le_refl _) _
    have hsd : wc.heap.size < (wc.alloc (.cells #[.int .i64 0] 3)).heap.size := by simp
    generalize hWd : wc.alloc (.cells #[.int .i64 0] 3) = wd at *
    clear hWd
    have HD := Lib.hid hD
    have hN : (vs'.zip ns').length = want.length := by rw [HZZ.out, List.length_map]
    have o1d := hD.keep_ HO1W.out
    have o2d := hD.keep_ HO2W.out
    have hwd : Below w.heap.size w wd := HB0.out.trans ((HBB.out.trans (hD.mono hsw)).mono hs0)
    have HWD := Lib.hid hwd
    have HO1D := Lib.hid o1d
    have HO2D := Lib.hid o2d
    have hbw : w.heap.size ≤ wc.heap.size := by omega
    have hb2 : w.heap.size + 2 < wc.heap.size := by omega
    clear o1d o2d hwd zf
    refine (wpIn_wide (n := 6)).1 ?_
    refine' wpIn_rangeFunc_ownG (α := ByteArray × Int) (F := Fence.wide) (n := 6) rfl (by decide) (gf := 156) (lb := #[.pointer (some ⟨B1', 0, none⟩), .pointer (some ⟨B2', 0, none⟩)]) rfl trivial (enters_of Tryz.func156 (by kernel_rfl) rfl)
      (rows_stops Fence.wide 5 trivial rfl (by decide) w0.heap.size B1' B2' sv nv vs' ns' hln (by omega) wc ⟨hA1, hA2⟩ ⟨hA3, hA4⟩ hc1 hc2 hI1 hI2) (fun {A B C} h k => KeepB.trans h k) (fun W l o o' hl h h1 h2 => keepB_b (w := wd) (by omega) W l o o' hl h h1 h2) hD (fun _ => rfl)
      (RowI wd wc.heap.size want) (fun _ pre _ => ¬ pre <+: want.map rowP) (rowI_own (Nat.le_refl _) hsd) (fun _ _ _ _ _ hs _ _ => hs) ?h0 _ ?assign ?body ?done ?stop
    case h0 => exact ⟨List.nil_prefix, Mod.refl _ _, d0⟩
    case assign =>
      intro l0 x W K hK
      gi_wp2
      exact hK
    case stop =>
      intro D c pre W hD hSp hIx
      exact absurd (by rw [← HZZ.out]; exact hSp) hIx
    case done =>
      rintro D xs W1 hD1 rfl ⟨-, hM, hc⟩ hK1
      rw [hN] at hc
      have y8 : W1.cell? ⟨wc.heap.size, 0, none⟩ = some (.int .i64 (want.length : Nat)) := cell_at hc rfl
      have y5 : W1.cell? ⟨w.heap.size + 1, 0, none⟩ = some (.slice Aw want.length cw) := cell_at (hM.keep HO1D.out (by omega)) rfl
      have o2e := hM.keep HO2D.out (show ¬ w.heap.size + 2 = wc.heap.size by omega)
      have y6 : W1.cell? ⟨w.heap.size + 2, 0, none⟩ = some (.bool false) := cell_at o2e rfl
      have f6 : W1.frozen? ⟨w.heap.size + 2, 0, none⟩ = false := frozen_at o2e
      have hq : ((want.length : Int) == (want.length : Int)) = true := by simp
      have HMM := Lib.hid hM
      have HK1 := Lib.hid hK1
      have HO2E := Lib.hid o2e
      clear hM hc hK1 o2e
      go_wp2_with fail
      show LeavesInM _ _ _ _ _ _ _ _ _
      have hDl := (Array.getElem?_eq_some_iff.1 HK1.out).1
      have hM1 : Mod (fun k => k = w.heap.size + 2) W1 (W1.setCell ⟨w.heap.size + 1 + 1, 0, none⟩ (.bool true)) := (Mod.refl (fun k => k = w.heap.size + 2) W1).setCell (p := ⟨w.heap.size + 1 + 1, 0, none⟩) (fun _ => rfl) _
      have oE : (W1.setCell ⟨w.heap.size + 1 + 1, 0, none⟩ (.bool true)).heap[w.heap.size + 2]? = some (.cells #[.bool true] 4) := heap_setCell_at HO2E.out
      refine leaves_marks [D] _ (by simp) (fun E hE => by
        obtain rfl := List.mem_singleton.1 hE
        exact hM1.keep HK1.out (by omega)) (fun w' hw' => ?_)
      have oF := hw'.keep oE (fun h => by
        have := List.mem_singleton.1 h
        omega)
      have x_0 : w'.cell? ⟨w.heap.size + 2, 0, none⟩ = some (.bool true) := cell_at oF rfl
      have hb1 : Below w.heap.size wd W1 := HMM.out.below (by omega) (fun k e => by rw [e]; exact hbw)
      have hb2 : Below w.heap.size W1 (W1.setCell ⟨w.heap.size + 1 + 1, 0, none⟩ (.bool true)) := hM1.below (by have := HMM.out.size; omega) (fun k e => by rw [e]; omega)
      have hb3 : Below w.heap.size (W1.setCell ⟨w.heap.size + 1 + 1, 0, none⟩ (.bool true)) w' := hw'.below (by have := HMM.out.size; have := hM1.size; omega) (fun k e => by
        have := List.mem_singleton.1 e
        omega)
      have hqv := HR.out w' ((HWD.out.trans hb1).trans (hb2.trans hb3))
      clear oE oF hb1 hb2 hb3 hM1
      refine ⟨_, ?_, hqv⟩
      simp [results, Tryz.results63, go_sem, x_0]
    case body =>
      intro l0 pre x W hI hlen
      obtain ⟨hp, hM, hc⟩ := hI
      have hplt : pre.length < want.length := by omega
      have y8 : W.cell? ⟨wc.heap.size, 0, none⟩ = some (.int .i64 (pre.length : Nat)) := cell_at hc rfl
      have f8 : W.frozen? ⟨wc.heap.size, 0, none⟩ = false := frozen_at hc
      have y5 : W.cell? ⟨w.heap.size + 1, 0, none⟩ = some (.slice Aw want.length cw) := cell_at (hM.keep HO1D.out (by omega)) rfl
      have o2e := hM.keep HO2D.out (show ¬ w.heap.size + 2 = wc.heap.size by omega)
      have y6 : W.cell? ⟨w.heap.size + 2, 0, none⟩ = some (.bool false) := cell_at o2e rfl
      have f6 : W.frozen? ⟨w.heap.size + 2, 0, none⟩ = false := frozen_at o2e
      have hWW : Below w.heap.size w W := HWD.out.trans (hM.below (by omega) (fun k e => by rw [e]; exact hbw))
      have hwW := HW.out.below rrowOk hWW HOK.out
      obtain ⟨b, off, c', he, _, _, hbk, hbl, hce⟩ := hwW.addr (by omega)
      simp only [Value.slice.injEq] at he
      obtain ⟨rfl, -, rfl⟩ := he
      obtain ⟨z0, z1⟩ := rrow_cells hce pre.length hplt
      have hnext : x = rowP (want[pre.length]'hplt) → pre ++ [x] <+: want.map rowP := fun e => by
        have h1 : pre = (want.map rowP).take pre.length := List.prefix_iff_eq_take.1 hp
        have h2 : pre ++ [x] = (want.map rowP).take (pre.length + 1) := by
          rw [List.take_succ_eq_append_getElem (by rw [List.length_map]; exact hplt), ← h1, List.getElem_map, e]
        rw [h2]
        exact List.take_prefix _ _
      have hstop : x ≠ rowP (want[pre.length]'hplt) → ¬ pre ++ [x] <+: want.map rowP := fun hne h => by
        have h2 := List.prefix_iff_eq_take.1 h
        have h3 : (pre ++ [x])[pre.length]? = some (rowP (want[pre.length]'hplt)) := by
          rw [h2, List.getElem?_take]
          simp [hplt]
        simp at h3
        exact hne h3
      obtain ⟨rv, hrv⟩ : ∃ rv, (want[pre.length]'hplt).value = rv := ⟨_, rfl⟩
      obtain ⟨rn, hrn⟩ : ∃ rn, (want[pre.length]'hplt).n = rn := ⟨_, rfl⟩
      have hrow : rowP (want[pre.length]'hplt) = (rv, rn) := by unfold rowP; rw [hrv, hrn]
      rw [hrow] at hnext hstop
      rw [hrv] at z0
      rw [hrn] at z1
      have HNEXT := Lib.hid hnext
      have HSTOP := Lib.hid hstop
      have HMM := Lib.hid hM
      have HCC := Lib.hid hc
      have HO2E := Lib.hid o2e
      have hge : decide ((want.length : Int) ≤ (pre.length : Int)) = false := by simp; omega
      have hgn : decide (want.length ≤ pre.length) = false := by simp; omega
      clear hnext hstop hM hc hWW hwW hce hp hrow hrv hrn o2e
      obtain ⟨xv, xn⟩ := x
      have hM8 : Mod (fun k => k = wc.heap.size) W (W.setCell ⟨wc.heap.size, 0, none⟩ (.int .i64 ((pre.length : Nat) + 1 : Int))) := (Mod.refl (fun k => k = wc.heap.size) W).setCell (p := ⟨wc.heap.size, 0, none⟩) (fun _ => rfl) _
      have hM6 : Mod (fun k => k = w.heap.size + 2) W (W.setCell ⟨w.heap.size + 1 + 1, 0, none⟩ (.bool false)) := (Mod.refl (fun k => k = w.heap.size + 2) W).setCell (p := ⟨w.heap.size + 1 + 1, 0, none⟩) (fun _ => rfl) _
      have HM8 := Lib.hid hM8
      have HM6 := Lib.hid hM6
      clear hM8 hM6
      cases t1 : (xv.toList == rv.toList) with
      | false =>
        gi_wp2
        exact ⟨⟨HM6.out.size, fun j o hj hk0 _ => HM6.out.keep hk0 (by omega)⟩, HSTOP.out (fun e => by rw [Prod.mk.injEq] at e; rw [e.1] at t1; simp at t1)⟩
      | true =>
        cases t2 : (xn != rn) with
        | true =>
          gi_wp2
          exact ⟨⟨HM6.out.size, fun j o hj hk0 _ => HM6.out.keep hk0 (by omega)⟩, HSTOP.out (fun e => by rw [Prod.mk.injEq] at e; rw [e.2] at t2; simp at t2)⟩
        | false =>
          have hxe : (xv, xn) = (rv, rn) := by
            rw [ba_toList_beq] at t1
            simp at t1 t2
            rw [t1, t2]
          have HXE := Lib.hid hxe
          have hzl : (vs'.zip ns').length = vs'.length := by rw [List.length_zip, hln]; simp
          have hwr : RowKit.wrap64 ((pre.length : Int) + 1) = (pre.length : Int) + 1 := by unfold RowKit.wrap64; omega
          have HWR := Lib.hid hwr
          clear hxe hwr
          gi_wp2
          try rw [HWR.out]
          exact ⟨⟨HM8.out.size, fun j o hj hk0 _ => HM8.out.keep hk0 (by omega)⟩, KeepB.of_mod HM8.out (fun j h1 h2 => by omega), HNEXT.out HXE.out, HMM.out.seq HM8.out, by
            have := heap_setCell_at (i := 0) (v := .int .i64 ((pre.length : Nat) + 1 : Int)) HCC.out
            simpa using this⟩
end Go.Proofs.YtmenipaibjifiaaGreatDoor

namespace Go.Proofs.YtmenipaibjifiaaGreatDoor
open Go.RowKit Go.BigFrame Go.Shelf

theorem setIn_p {w w' : World} {s b n : Nat} {ws : List Nat} (h : SetIn w s b n ws) (hb : Below w.heap.size w w') : SetP w' (fun k => k < w'.heap.size) (.pointer (some ⟨s, 0, none⟩)) n ws := by
  have hl := h.lt
  have hs := hb.size
  exact .inr ⟨s, b, rfl, h.move (hb.block _ hl.1) (hb.block _ hl.2), by omega, by omega⟩
theorem rRanked_len {d : RDom} (Z : Sized d) (key : ByteArray) (l : List Int) (c n : Int) : (rRankedL d key l c n).length ≤ 1073741824 := by
  have h := rankTo_len Z (rTallyL d key l) (by
    have := valTo_length Z key d.nodes.length
    unfold valTo at this
    rw [List.take_length] at this
    rw [rTallyL_eq, List.length_map]
    exact this) key c n d.nodes.length
  unfold rankTo at h
  rw [List.take_length] at h
  unfold rRankedL
  omega
theorem rdomK.below {w w' : World} {ok : Nat → Prop} {d : RDom} {cs : List Value} (h : rdomK w ok d cs) (hb : Below w.heap.size w w') (hok : ∀ k, ok k → k < w.heap.size) : rdomK w' ok d cs := by
  obtain ⟨vn, vp, rfl, hn, hp⟩ := h
  exact ⟨_, _, rfl, hn.below rnodeOk hb hok, hp.below rpodOk hb hok⟩
set_option maxRecDepth 100000 in
set_option maxHeartbeats 40000000 in
theorem sets4_k (R : Ending → World → Prop) (w : World) (dv : Value) (d : RDom) (x : AskD) (vp : Value) (ok : Nat → Prop) (cd : List Value) (Q : Asked w dv d) (hok : ∀ k, ok k → k < w.heap.size) (hd : rdomK w ok d cd) (Z : Sized d) (hvp : SlK intsK 1 w ok vp x.pods) (hpl : x.pods.length ≤ 1073741824) (hk : x.kind = 4)
    (hR : ∀ w', Below w.heap.size w w' → R (.returned (.bool true)) w') :
    Calls Tryz.prog 68 #[dv, .agg cd.toArray, .agg (askC x vp)] w R := by
  have HKI := Lib.hid hk
  clear hk
  have HR := Lib.hid hR
  have HQ := Lib.hid Q
  have HOK0 := Lib.hid hok
  obtain ⟨vn, vq, rfl, hn, hp⟩ := hd
  obtain ⟨A, c, e, hlc, _⟩ := hn.form
  subst e
  obtain ⟨A2, c2, e2, hlc2, _⟩ := hp.form
  subst e2
  have hvp0 := hvp
  obtain ⟨Ap, cp, ep, hlp, _⟩ := hvp.form
  subst ep
  have hB0 : Below w.heap.size w ((w.alloc (.cells #[.slice A d.nodes.length c, .slice A2 d.pods.length c2] 29)).alloc (.cells (askC x (.slice Ap x.pods.length cp)) 45)) := Below.alloc (Below.alloc (Below.refl _ _) (Nat.le_refl _) _) (by simp) _
  have o0 : ((w.alloc (.cells #[.slice A d.nodes.length c, .slice A2 d.pods.length c2] 29)).alloc (.cells (askC x (.slice Ap x.pods.length cp)) 45)).heap[w.heap.size]? = some (.cells #[.slice A d.nodes.length c, .slice A2 d.pods.length c2] 29) := heap_keep (heap_alloc_new _ _) _
  have o1 : ((w.alloc (.cells #[.slice A d.nodes.length c, .slice A2 d.pods.length c2] 29)).alloc (.cells (askC x (.slice Ap x.pods.length cp)) 45)).heap[w.heap.size + 1]? = some (.cells (askC x (.slice Ap x.pods.length cp)) 45) := by
    have := heap_alloc_new (w.alloc (.cells #[.slice A d.nodes.length c, .slice A2 d.pods.length c2] 29)) (.cells (askC x (.slice Ap x.pods.length cp)) 45)
    rwa [World.size_alloc] at this
  have hrd0 : rdomK ((w.alloc (.cells #[.slice A d.nodes.length c, .slice A2 d.pods.length c2] 29)).alloc (.cells (askC x (.slice Ap x.pods.length cp)) 45)) ok d [.slice A d.nodes.length c, .slice A2 d.pods.length c2] := ⟨_, _, rfl, hn.below rnodeOk hB0 hok, hp.below rpodOk hB0 hok⟩
  have hpp0 := hvp0.below intOk hB0 hok
  have hok0 : ∀ k, ok k → k < ((w.alloc (.cells #[.slice A d.nodes.length c, .slice A2 d.pods.length c2] 29)).alloc (.cells (askC x (.slice Ap x.pods.length cp)) 45)).heap.size := fun k h => Nat.lt_of_lt_of_le (hok k h) hB0.size
  clear hR Q hok hn hp hvp hvp0
  go_enter Tryz.func68, Tryz.ntmps68
  go_upto_region 1 with fail
  generalize hW0 : (w.alloc (.cells #[.slice A d.nodes.length c, .slice A2 d.pods.length c2] 29)).alloc (.cells (askC x (.slice Ap x.pods.length cp)) 45) = w0 at *
  clear hW0
  have HB0 := Lib.hid hB0
  have hs0 := hB0.size
  have HRD := Lib.hid hrd0
  have HPP := Lib.hid hpp0
  have HOK := Lib.hid hok0
  have hzn := Z.n
  have hzp := Z.p
  have HZ := Lib.hid Z
  have q0 : w0.cell? ⟨w.heap.size, 0, none⟩ = some (.slice A d.nodes.length c) := cell_at o0 rfl
  have q1 : w0.cell? ⟨w.heap.size, 1, none⟩ = some (.slice A2 d.pods.length c2) := cell_at o0 rfl
  have k0 : w0.cell? ⟨w.heap.size + 1, 0, none⟩ = some (.int .i64 x.kind) := cell_at o1 rfl
  have k1 : w0.cell? ⟨w.heap.size + 1, 1, none⟩ = some (.string x.key) := cell_at o1 rfl
  have k2 : w0.cell? ⟨w.heap.size + 1, 2, none⟩ = some (.string x.value) := cell_at o1 rfl
  have k3 : w0.cell? ⟨w.heap.size + 1, 3, none⟩ = some (.string x.podKey) := cell_at o1 rfl
  have k4 : w0.cell? ⟨w.heap.size + 1, 4, none⟩ = some (.string x.podValue) := cell_at o1 rfl
  have k5 : w0.cell? ⟨w.heap.size + 1, 5, none⟩ = some (.int .i64 x.slot) := cell_at o1 rfl
  have k6 : w0.cell? ⟨w.heap.size + 1, 6, none⟩ = some (.slice Ap x.pods.length cp) := cell_at o1 rfl
  have k7 : w0.cell? ⟨w.heap.size + 1, 7, none⟩ = some (.int .i64 x.cmp) := cell_at o1 rfl
  have k8 : w0.cell? ⟨w.heap.size + 1, 8, none⟩ = some (.int .i64 x.n) := cell_at o1 rfl
  have hNL : ∀ x ∈ d.nodes, x.labels.length ≤ 1073741824 := fun y hy => by have := HZ.out.nl y hy; omega
  have HNL := Lib.hid hNL
  clear hB0 hrd0 hpp0 hok0 o0 o1 Z hNL
  have hk := HKI.out
  have hkk := k0
  rw [hk] at hkk
  clear k0 hk
  have hlen : (rNodesL d.nodes x.key x.value).length ≤ 2048 := by have := rNodesL_le d.nodes x.key x.value; omega
  have HK := Lib.hid (show ∀ w', Below w0.heap.size w0 w' → Below w0.heap.size w0 w' ∧ w'.cell? ⟨w.heap.size, 0, none⟩ = some (.slice A d.nodes.length c) ∧ w'.cell? ⟨w.heap.size, 1, none⟩ = some (.slice A2 d.pods.length c2) ∧ w'.cell? ⟨w.heap.size + 1, 1, none⟩ = some (.string x.key) ∧ w'.cell? ⟨w.heap.size + 1, 2, none⟩ = some (.string x.value) from fun w' hw => ⟨hw, (Mod.of_below hw).cell' q0 (fun h => h), (Mod.of_below hw).cell' q1 (fun h => h), (Mod.of_below hw).cell' k1 (fun h => h), (Mod.of_below hw).cell' k2 (fun h => h)⟩)
  go_wp2_with fail
  go_region_held3 (fun w' => Below w0.heap.size w0 w' ∧ w'.cell? ⟨w.heap.size, 0, none⟩ = some (.slice A d.nodes.length c) ∧ w'.cell? ⟨w.heap.size, 1, none⟩ = some (.slice A2 d.pods.length c2) ∧ w'.cell? ⟨w.heap.size + 1, 1, none⟩ = some (.string x.key) ∧ w'.cell? ⟨w.heap.size + 1, 2, none⟩ = some (.string x.value))
    (first
    | exact HK.out _ (Below.refl _ w0).drew
    | exact HK.out _ y1
    | exact HK.out _ y2
    | exact HK.out _ y3)
    (first
    | (go_at_call 22; refine HQ.out.nodes _ _ x.key x.value (HB0.out.trans ((Below.refl _ w0).drew.mono hs0)) ?_; intro s b ws w1 g1 hs1 hb1 hS hm
       have y1 : Below w0.heap.size w0 w1 := Below.of_drew g1)
    | (go_at_call 147; refine rnodes_k _ _ ok d x.key x.value [_, _] (fun k h => Nat.lt_of_lt_of_le (HOK.out k h) y1.size) (HRD.out.below y1 HOK.out) (by omega) HNL.out ?_; intro v2 w2 b12 hl2
       have y2 : Below w0.heap.size w0 w2 := y1.trans (b12.mono y1.size))
    | (go_at_call 49; refine membersL_k _ _ (fun k => k < w2.heap.size) (fun k => k < w2.heap.size) _ _ 512 ws (rNodesL d.nodes x.key x.value) 512 (fun k h => h) (fun k h => h) (setIn_p hS b12) (by decide) (SlK.mono intOk (SlK.bnd intOk hl2) (fun k h => h.2)) (by omega) ?_; intro w3 g3
       have y3 : Below w0.heap.size w0 w3 := y2.trans (g3.mono y2.size)
       rw [show (decide (((512 : Nat) : Int) = 512) && decide (natI (mems 512 ws) = (rNodesL d.nodes x.key x.value))) = true by rw [hm]; simp]))
  all_goals (
    have hv := HR.out w3 (HB0.out.trans (y3.mono hs0))
    go_wp2_with fail
    exact hv)
set_option maxRecDepth 100000 in
set_option maxHeartbeats 40000000 in
theorem sets5_k (R : Ending → World → Prop) (w : World) (dv : Value) (d : RDom) (x : AskD) (vp : Value) (ok : Nat → Prop) (cd : List Value) (Q : Asked w dv d) (hok : ∀ k, ok k → k < w.heap.size) (hd : rdomK w ok d cd) (Z : Sized d) (hvp : SlK intsK 1 w ok vp x.pods) (hpl : x.pods.length ≤ 1073741824) (hk : x.kind = 5)
    (hR : ∀ w', Below w.heap.size w w' → R (.returned (.bool true)) w') :
    Calls Tryz.prog 68 #[dv, .agg cd.toArray, .agg (askC x vp)] w R := by
  have HKI := Lib.hid hk
  clear hk
  have HR := Lib.hid hR
  have HQ := Lib.hid Q
  have HOK0 := Lib.hid hok
  obtain ⟨vn, vq, rfl, hn, hp⟩ := hd
  obtain ⟨A, c, e, hlc, _⟩ := hn.form
  subst e
  obtain ⟨A2, c2, e2, hlc2, _⟩ := hp.form
  subst e2
  have hvp0 := hvp
  obtain ⟨Ap, cp, ep, hlp, _⟩ := hvp.form
  subst ep
  have hB0 : Below w.heap.size w ((w.alloc (.cells #[.slice A d.nodes.length c, .slice A2 d.pods.length c2] 29)).alloc (.cells (askC x (.slice Ap x.pods.length cp)) 45)) := Below.alloc (Below.alloc (Below.refl _ _) (Nat.le_refl _) _) (by simp) _
  have o0 : ((w.alloc (.cells #[.slice A d.nodes.length c, .slice A2 d.pods.length c2] 29)).alloc (.cells (askC x (.slice Ap x.pods.length cp)) 45)).heap[w.heap.size]? = some (.cells #[.slice A d.nodes.length c, .slice A2 d.pods.length c2] 29) := heap_keep (heap_alloc_new _ _) _
  have o1 : ((w.alloc (.cells #[.slice A d.nodes.length c, .slice A2 d.pods.length c2] 29)).alloc (.cells (askC x (.slice Ap x.pods.length cp)) 45)).heap[w.heap.size + 1]? = some (.cells (askC x (.slice Ap x.pods.length cp)) 45) := by
    have := heap_alloc_new (w.alloc (.cells #[.slice A d.nodes.length c, .slice A2 d.pods.length c2] 29)) (.cells (askC x (.slice Ap x.pods.length cp)) 45)
    rwa [World.size_alloc] at this
  have hrd0 : rdomK ((w.alloc (.cells #[.slice A d.nodes.length c, .slice A2 d.pods.length c2] 29)).alloc (.cells (askC x (.slice Ap x.pods.length cp)) 45)) ok d [.slice A d.nodes.length c, .slice A2 d.pods.length c2] := ⟨_, _, rfl, hn.below rnodeOk hB0 hok, hp.below rpodOk hB0 hok⟩
  have hpp0 := hvp0.below intOk hB0 hok
  have hok0 : ∀ k, ok k → k < ((w.alloc (.cells #[.slice A d.nodes.length c, .slice A2 d.pods.length c2] 29)).alloc (.cells (askC x (.slice Ap x.pods.length cp)) 45)).heap.size := fun k h => Nat.lt_of_lt_of_le (hok k h) hB0.size
  clear hR Q hok hn hp hvp hvp0
  go_enter Tryz.func68, Tryz.ntmps68
  go_upto_region 1 with fail
  generalize hW0 : (w.alloc (.cells #[.slice A d.nodes.length c, .slice A2 d.pods.length c2] 29)).alloc (.cells (askC x (.slice Ap x.pods.length cp)) 45) = w0 at *
  clear hW0
  have HB0 := Lib.hid hB0
  have hs0 := hB0.size
  have HRD := Lib.hid hrd0
  have HPP := Lib.hid hpp0
  have HOK := Lib.hid hok0
  have hzn := Z.n
  have hzp := Z.p
  have HZ := Lib.hid Z
  have q0 : w0.cell? ⟨w.heap.size, 0, none⟩ = some (.slice A d.nodes.length c) := cell_at o0 rfl
  have q1 : w0.cell? ⟨w.heap.size, 1, none⟩ = some (.slice A2 d.pods.length c2) := cell_at o0 rfl
  have k0 : w0.cell? ⟨w.heap.size + 1, 0, none⟩ = some (.int .i64 x.kind) := cell_at o1 rfl
  have k1 : w0.cell? ⟨w.heap.size + 1, 1, none⟩ = some (.string x.key) := cell_at o1 rfl
  have k2 : w0.cell? ⟨w.heap.size + 1, 2, none⟩ = some (.string x.value) := cell_at o1 rfl
  have k3 : w0.cell? ⟨w.heap.size + 1, 3, none⟩ = some (.string x.podKey) := cell_at o1 rfl
  have k4 : w0.cell? ⟨w.heap.size + 1, 4, none⟩ = some (.string x.podValue) := cell_at o1 rfl
  have k5 : w0.cell? ⟨w.heap.size + 1, 5, none⟩ = some (.int .i64 x.slot) := cell_at o1 rfl
  have k6 : w0.cell? ⟨w.heap.size + 1, 6, none⟩ = some (.slice Ap x.pods.length cp) := cell_at o1 rfl
  have k7 : w0.cell? ⟨w.heap.size + 1, 7, none⟩ = some (.int .i64 x.cmp) := cell_at o1 rfl
  have k8 : w0.cell? ⟨w.heap.size + 1, 8, none⟩ = some (.int .i64 x.n) := cell_at o1 rfl
  have hNL : ∀ x ∈ d.nodes, x.labels.length ≤ 1073741824 := fun y hy => by have := HZ.out.nl y hy; omega
  have HNL := Lib.hid hNL
  clear hB0 hrd0 hpp0 hok0 o0 o1 Z hNL
  have hk := HKI.out
  have hkk := k0
  rw [hk] at hkk
  clear k0 hk
  have hlen : (rPodsL d d.pods x.key x.value).length ≤ 2048 := by have := rPodsL_le d d.pods x.key x.value; omega
  have HK := Lib.hid (show ∀ w', Below w0.heap.size w0 w' → Below w0.heap.size w0 w' ∧ w'.cell? ⟨w.heap.size, 0, none⟩ = some (.slice A d.nodes.length c) ∧ w'.cell? ⟨w.heap.size, 1, none⟩ = some (.slice A2 d.pods.length c2) ∧ w'.cell? ⟨w.heap.size + 1, 1, none⟩ = some (.string x.key) ∧ w'.cell? ⟨w.heap.size + 1, 2, none⟩ = some (.string x.value) from fun w' hw => ⟨hw, (Mod.of_below hw).cell' q0 (fun h => h), (Mod.of_below hw).cell' q1 (fun h => h), (Mod.of_below hw).cell' k1 (fun h => h), (Mod.of_below hw).cell' k2 (fun h => h)⟩)
  go_wp2_with fail
  go_region_held3 (fun w' => Below w0.heap.size w0 w' ∧ w'.cell? ⟨w.heap.size, 0, none⟩ = some (.slice A d.nodes.length c) ∧ w'.cell? ⟨w.heap.size, 1, none⟩ = some (.slice A2 d.pods.length c2) ∧ w'.cell? ⟨w.heap.size + 1, 1, none⟩ = some (.string x.key) ∧ w'.cell? ⟨w.heap.size + 1, 2, none⟩ = some (.string x.value))
    (first
    | exact HK.out _ (Below.refl _ w0).drew
    | exact HK.out _ y1
    | exact HK.out _ y2
    | exact HK.out _ y3)
    (first
    | (go_at_call 23; refine HQ.out.pods _ _ x.key x.value (HB0.out.trans ((Below.refl _ w0).drew.mono hs0)) ?_; intro s b ws w1 g1 hs1 hb1 hS hm
       have y1 : Below w0.heap.size w0 w1 := Below.of_drew g1)
    | (go_at_call 148; refine rpods_k _ _ ok d x.key x.value [_, _] (fun k h => Nat.lt_of_lt_of_le (HOK.out k h) y1.size) (HRD.out.below y1 HOK.out) (by omega) (by omega) HNL.out ?_; intro v2 w2 b12 hl2
       have y2 : Below w0.heap.size w0 w2 := y1.trans (b12.mono y1.size))
    | (go_at_call 49; refine membersL_k _ _ (fun k => k < w2.heap.size) (fun k => k < w2.heap.size) _ _ 2048 ws (rPodsL d d.pods x.key x.value) 2048 (fun k h => h) (fun k h => h) (setIn_p hS b12) (by decide) (SlK.mono intOk (SlK.bnd intOk hl2) (fun k h => h.2)) (by omega) ?_; intro w3 g3
       have y3 : Below w0.heap.size w0 w3 := y2.trans (g3.mono y2.size)
       rw [show (decide (((2048 : Nat) : Int) = 2048) && decide (natI (mems 2048 ws) = (rPodsL d d.pods x.key x.value))) = true by rw [hm]; simp]))
  all_goals (
    have hv := HR.out w3 (HB0.out.trans (y3.mono hs0))
    go_wp2_with fail
    exact hv)
set_option maxRecDepth 100000 in
set_option maxHeartbeats 40000000 in
theorem sets7_k (R : Ending → World → Prop) (w : World) (dv : Value) (d : RDom) (x : AskD) (vp : Value) (ok : Nat → Prop) (cd : List Value) (Q : Asked w dv d) (hok : ∀ k, ok k → k < w.heap.size) (hd : rdomK w ok d cd) (Z : Sized d) (hvp : SlK intsK 1 w ok vp x.pods) (hpl : x.pods.length ≤ 1073741824) (hk : x.kind = 7)
    (hR : ∀ w', Below w.heap.size w w' → R (.returned (.bool true)) w') :
    Calls Tryz.prog 68 #[dv, .agg cd.toArray, .agg (askC x vp)] w R := by
  have HKI := Lib.hid hk
  clear hk
  have HR := Lib.hid hR
  have HQ := Lib.hid Q
  have HOK0 := Lib.hid hok
  obtain ⟨vn, vq, rfl, hn, hp⟩ := hd
  obtain ⟨A, c, e, hlc, _⟩ := hn.form
  subst e
  obtain ⟨A2, c2, e2, hlc2, _⟩ := hp.form
  subst e2
  have hvp0 := hvp
  obtain ⟨Ap, cp, ep, hlp, _⟩ := hvp.form
  subst ep
  have hB0 : Below w.heap.size w ((w.alloc (.cells #[.slice A d.nodes.length c, .slice A2 d.pods.length c2] 29)).alloc (.cells (askC x (.slice Ap x.pods.length cp)) 45)) := Below.alloc (Below.alloc (Below.refl _ _) (Nat.le_refl _) _) (by simp) _
  have o0 : ((w.alloc (.cells #[.slice A d.nodes.length c, .slice A2 d.pods.length c2] 29)).alloc (.cells (askC x (.slice Ap x.pods.length cp)) 45)).heap[w.heap.size]? = some (.cells #[.slice A d.nodes.length c, .slice A2 d.pods.length c2] 29) := heap_keep (heap_alloc_new _ _) _
  have o1 : ((w.alloc (.cells #[.slice A d.nodes.length c, .slice A2 d.pods.length c2] 29)).alloc (.cells (askC x (.slice Ap x.pods.length cp)) 45)).heap[w.heap.size + 1]? = some (.cells (askC x (.slice Ap x.pods.length cp)) 45) := by
    have := heap_alloc_new (w.alloc (.cells #[.slice A d.nodes.length c, .slice A2 d.pods.length c2] 29)) (.cells (askC x (.slice Ap x.pods.length cp)) 45)
    rwa [World.size_alloc] at this
  have hrd0 : rdomK ((w.alloc (.cells #[.slice A d.nodes.length c, .slice A2 d.pods.length c2] 29)).alloc (.cells (askC x (.slice Ap x.pods.length cp)) 45)) ok d [.slice A d.nodes.length c, .slice A2 d.pods.length c2] := ⟨_, _, rfl, hn.below rnodeOk hB0 hok, hp.below rpodOk hB0 hok⟩
  have hpp0 := hvp0.below intOk hB0 hok
  have hok0 : ∀ k, ok k → k < ((w.alloc (.cells #[.slice A d.nodes.length c, .slice A2 d.pods.length c2] 29)).alloc (.cells (askC x (.slice Ap x.pods.length cp)) 45)).heap.size := fun k h => Nat.lt_of_lt_of_le (hok k h) hB0.size
  clear hR Q hok hn hp hvp hvp0
  go_enter Tryz.func68, Tryz.ntmps68
  go_upto_region 1 with fail
  generalize hW0 : (w.alloc (.cells #[.slice A d.nodes.length c, .slice A2 d.pods.length c2] 29)).alloc (.cells (askC x (.slice Ap x.pods.length cp)) 45) = w0 at *
  clear hW0
  have HB0 := Lib.hid hB0
  have hs0 := hB0.size
  have HRD := Lib.hid hrd0
  have HPP := Lib.hid hpp0
  have HOK := Lib.hid hok0
  have hzn := Z.n
  have hzp := Z.p
  have HZ := Lib.hid Z
  have q0 : w0.cell? ⟨w.heap.size, 0, none⟩ = some (.slice A d.nodes.length c) := cell_at o0 rfl
  have q1 : w0.cell? ⟨w.heap.size, 1, none⟩ = some (.slice A2 d.pods.length c2) := cell_at o0 rfl
  have k0 : w0.cell? ⟨w.heap.size + 1, 0, none⟩ = some (.int .i64 x.kind) := cell_at o1 rfl
  have k1 : w0.cell? ⟨w.heap.size + 1, 1, none⟩ = some (.string x.key) := cell_at o1 rfl
  have k2 : w0.cell? ⟨w.heap.size + 1, 2, none⟩ = some (.string x.value) := cell_at o1 rfl
  have k3 : w0.cell? ⟨w.heap.size + 1, 3, none⟩ = some (.string x.podKey) := cell_at o1 rfl
  have k4 : w0.cell? ⟨w.heap.size + 1, 4, none⟩ = some (.string x.podValue) := cell_at o1 rfl
  have k5 : w0.cell? ⟨w.heap.size + 1, 5, none⟩ = some (.int .i64 x.slot) := cell_at o1 rfl
  have k6 : w0.cell? ⟨w.heap.size + 1, 6, none⟩ = some (.slice Ap x.pods.length cp) := cell_at o1 rfl
  have k7 : w0.cell? ⟨w.heap.size + 1, 7, none⟩ = some (.int .i64 x.cmp) := cell_at o1 rfl
  have k8 : w0.cell? ⟨w.heap.size + 1, 8, none⟩ = some (.int .i64 x.n) := cell_at o1 rfl
  have hNL : ∀ x ∈ d.nodes, x.labels.length ≤ 1073741824 := fun y hy => by have := HZ.out.nl y hy; omega
  have HNL := Lib.hid hNL
  clear hB0 hrd0 hpp0 hok0 o0 o1 Z hNL
  have hk := HKI.out
  have hkk := k0
  rw [hk] at hkk
  clear k0 hk
  have HK := Lib.hid (show ∀ w', Below w0.heap.size w0 w' → Below w0.heap.size w0 w' ∧ w'.cell? ⟨w.heap.size, 0, none⟩ = some (.slice A d.nodes.length c) ∧ w'.cell? ⟨w.heap.size, 1, none⟩ = some (.slice A2 d.pods.length c2) ∧ w'.cell? ⟨w.heap.size + 1, 1, none⟩ = some (.string x.key) ∧ w'.cell? ⟨w.heap.size + 1, 6, none⟩ = some (.slice Ap x.pods.length cp) from fun w' hw => ⟨hw, (Mod.of_below hw).cell' q0 (fun h => h), (Mod.of_below hw).cell' q1 (fun h => h), (Mod.of_below hw).cell' k1 (fun h => h), (Mod.of_below hw).cell' k6 (fun h => h)⟩)
  go_wp2_with fail
  go_region_held3 (fun w' => Below w0.heap.size w0 w' ∧ w'.cell? ⟨w.heap.size, 0, none⟩ = some (.slice A d.nodes.length c) ∧ w'.cell? ⟨w.heap.size, 1, none⟩ = some (.slice A2 d.pods.length c2) ∧ w'.cell? ⟨w.heap.size + 1, 1, none⟩ = some (.string x.key) ∧ w'.cell? ⟨w.heap.size + 1, 6, none⟩ = some (.slice Ap x.pods.length cp))
    (first
    | exact HK.out _ (Below.refl _ w0).drew
    | exact HK.out _ ym
    | exact HK.out _ y1
    | exact HK.out _ y2
    | exact HK.out _ y3)
    (first
    | (go_at_call 27; refine marks_k _ _ ok _ x.pods (fun k h => HOK.out k h) (SlK.move intOk HPP.out (fun _ _ => rfl)) hpl ?_; intro vm wm gm hmm
       have ym : Below w0.heap.size w0 wm := Below.of_drew gm)
    | (go_at_call 26; refine HQ.out.near _ _ x.key _ vm x.pods (HB0.out.trans (ym.mono hs0)) hmm (fun k h => h.2) ?_; intro s b ws w1 g1 hs1 hb1 hS hm
       have y1 : Below w0.heap.size w0 w1 := ym.trans (g1.mono ym.size)
       rw [rRanked_near] at hm)
    | (go_at_call 150; refine rnear_k _ _ ok d x.key _ x.pods [_, _] (fun k h => Nat.lt_of_lt_of_le (HOK.out k h) y1.size) (HRD.out.below y1 HOK.out) HZ.out (HPP.out.below intOk y1 HOK.out) hpl ?_; intro v2 w2 b12 hl2
       have y2 : Below w0.heap.size w0 w2 := y1.trans (b12.mono y1.size))
    | (go_at_call 49; refine membersL_k _ _ (fun k => k < w2.heap.size) (fun k => k < w2.heap.size) _ _ 512 ws (rRankedL d x.key x.pods 6 1) 512 (fun k h => h) (fun k h => h) (setIn_p hS b12) (by decide) (SlK.mono intOk (SlK.bnd intOk hl2) (fun k h => h.2)) (rRanked_len HZ.out _ _ _ _) ?_; intro w3 g3
       have y3 : Below w0.heap.size w0 w3 := y2.trans (g3.mono y2.size)
       rw [show (decide (((512 : Nat) : Int) = 512) && decide (natI (mems 512 ws) = (rRankedL d x.key x.pods 6 1))) = true by rw [hm]; simp]))
  all_goals (
    have hv := HR.out w3 (HB0.out.trans (y3.mono hs0))
    go_wp2_with fail
    exact hv)
set_option maxRecDepth 100000 in
set_option maxHeartbeats 40000000 in
theorem sets9_k (R : Ending → World → Prop) (w : World) (dv : Value) (d : RDom) (x : AskD) (vp : Value) (ok : Nat → Prop) (cd : List Value) (Q : Asked w dv d) (hok : ∀ k, ok k → k < w.heap.size) (hd : rdomK w ok d cd) (Z : Sized d) (hvp : SlK intsK 1 w ok vp x.pods) (hpl : x.pods.length ≤ 1073741824) (hk4 : x.kind ≠ 4) (hk5 : x.kind ≠ 5) (hk7 : x.kind ≠ 7)
    (hR : ∀ w', Below w.heap.size w w' → R (.returned (.bool true)) w') :
    Calls Tryz.prog 68 #[dv, .agg cd.toArray, .agg (askC x vp)] w R := by
  have e4 : (x.kind == 4) = false := by simpa using hk4
  have e5 : (x.kind == 5) = false := by simpa using hk5
  have e7 : (x.kind == 7) = false := by simpa using hk7
  have E4 := Lib.hid e4
  have E5 := Lib.hid e5
  have E7 := Lib.hid e7
  clear hk4 hk5 hk7 e4 e5 e7
  have HR := Lib.hid hR
  have HQ := Lib.hid Q
  have HOK0 := Lib.hid hok
  obtain ⟨vn, vq, rfl, hn, hp⟩ := hd
  obtain ⟨A, c, e, hlc, _⟩ := hn.form
  subst e
  obtain ⟨A2, c2, e2, hlc2, _⟩ := hp.form
  subst e2
  have hvp0 := hvp
  obtain ⟨Ap, cp, ep, hlp, _⟩ := hvp.form
  subst ep
  have hB0 : Below w.heap.size w ((w.alloc (.cells #[.slice A d.nodes.length c, .slice A2 d.pods.length c2] 29)).alloc (.cells (askC x (.slice Ap x.pods.length cp)) 45)) := Below.alloc (Below.alloc (Below.refl _ _) (Nat.le_refl _) _) (by simp) _
  have o0 : ((w.alloc (.cells #[.slice A d.nodes.length c, .slice A2 d.pods.length c2] 29)).alloc (.cells (askC x (.slice Ap x.pods.length cp)) 45)).heap[w.heap.size]? = some (.cells #[.slice A d.nodes.length c, .slice A2 d.pods.length c2] 29) := heap_keep (heap_alloc_new _ _) _
  have o1 : ((w.alloc (.cells #[.slice A d.nodes.length c, .slice A2 d.pods.length c2] 29)).alloc (.cells (askC x (.slice Ap x.pods.length cp)) 45)).heap[w.heap.size + 1]? = some (.cells (askC x (.slice Ap x.pods.length cp)) 45) := by
    have := heap_alloc_new (w.alloc (.cells #[.slice A d.nodes.length c, .slice A2 d.pods.length c2] 29)) (.cells (askC x (.slice Ap x.pods.length cp)) 45)
    rwa [World.size_alloc] at this
  have hrd0 : rdomK ((w.alloc (.cells #[.slice A d.nodes.length c, .slice A2 d.pods.length c2] 29)).alloc (.cells (askC x (.slice Ap x.pods.length cp)) 45)) ok d [.slice A d.nodes.length c, .slice A2 d.pods.length c2] := ⟨_, _, rfl, hn.below rnodeOk hB0 hok, hp.below rpodOk hB0 hok⟩
  have hpp0 := hvp0.below intOk hB0 hok
  have hok0 : ∀ k, ok k → k < ((w.alloc (.cells #[.slice A d.nodes.length c, .slice A2 d.pods.length c2] 29)).alloc (.cells (askC x (.slice Ap x.pods.length cp)) 45)).heap.size := fun k h => Nat.lt_of_lt_of_le (hok k h) hB0.size
  clear hR Q hok hn hp hvp hvp0
  go_enter Tryz.func68, Tryz.ntmps68
  go_upto_region 1 with fail
  generalize hW0 : (w.alloc (.cells #[.slice A d.nodes.length c, .slice A2 d.pods.length c2] 29)).alloc (.cells (askC x (.slice Ap x.pods.length cp)) 45) = w0 at *
  clear hW0
  have HB0 := Lib.hid hB0
  have hs0 := hB0.size
  have HRD := Lib.hid hrd0
  have HPP := Lib.hid hpp0
  have HOK := Lib.hid hok0
  have hzn := Z.n
  have hzp := Z.p
  have HZ := Lib.hid Z
  have q0 : w0.cell? ⟨w.heap.size, 0, none⟩ = some (.slice A d.nodes.length c) := cell_at o0 rfl
  have q1 : w0.cell? ⟨w.heap.size, 1, none⟩ = some (.slice A2 d.pods.length c2) := cell_at o0 rfl
  have k0 : w0.cell? ⟨w.heap.size + 1, 0, none⟩ = some (.int .i64 x.kind) := cell_at o1 rfl
  have k1 : w0.cell? ⟨w.heap.size + 1, 1, none⟩ = some (.string x.key) := cell_at o1 rfl
  have k2 : w0.cell? ⟨w.heap.size + 1, 2, none⟩ = some (.string x.value) := cell_at o1 rfl
  have k3 : w0.cell? ⟨w.heap.size + 1, 3, none⟩ = some (.string x.podKey) := cell_at o1 rfl
  have k4 : w0.cell? ⟨w.heap.size + 1, 4, none⟩ = some (.string x.podValue) := cell_at o1 rfl
  have k5 : w0.cell? ⟨w.heap.size + 1, 5, none⟩ = some (.int .i64 x.slot) := cell_at o1 rfl
  have k6 : w0.cell? ⟨w.heap.size + 1, 6, none⟩ = some (.slice Ap x.pods.length cp) := cell_at o1 rfl
  have k7 : w0.cell? ⟨w.heap.size + 1, 7, none⟩ = some (.int .i64 x.cmp) := cell_at o1 rfl
  have k8 : w0.cell? ⟨w.heap.size + 1, 8, none⟩ = some (.int .i64 x.n) := cell_at o1 rfl
  have hNL : ∀ x ∈ d.nodes, x.labels.length ≤ 1073741824 := fun y hy => by have := HZ.out.nl y hy; omega
  have HNL := Lib.hid hNL
  clear hB0 hrd0 hpp0 hok0 o0 o1 Z hNL
  have e4 := E4.out
  have e5 := E5.out
  have e7 := E7.out
  have HK := Lib.hid (show ∀ w', Below w0.heap.size w0 w' → Below w0.heap.size w0 w' ∧ w'.cell? ⟨w.heap.size + 1, 1, none⟩ = some (.string x.key) ∧ w'.cell? ⟨w.heap.size + 1, 6, none⟩ = some (.slice Ap x.pods.length cp) ∧ w'.cell? ⟨w.heap.size + 1, 7, none⟩ = some (.int .i64 x.cmp) ∧ w'.cell? ⟨w.heap.size + 1, 8, none⟩ = some (.int .i64 x.n) from fun w' hw => ⟨hw, (Mod.of_below hw).cell' k1 (fun h => h), (Mod.of_below hw).cell' k6 (fun h => h), (Mod.of_below hw).cell' k7 (fun h => h), (Mod.of_below hw).cell' k8 (fun h => h)⟩)
  go_wp2_with fail
  go_region_held3 (fun w' => Below w0.heap.size w0 w' ∧ w'.cell? ⟨w.heap.size + 1, 1, none⟩ = some (.string x.key) ∧ w'.cell? ⟨w.heap.size + 1, 6, none⟩ = some (.slice Ap x.pods.length cp) ∧ w'.cell? ⟨w.heap.size + 1, 7, none⟩ = some (.int .i64 x.cmp) ∧ w'.cell? ⟨w.heap.size + 1, 8, none⟩ = some (.int .i64 x.n))
    (first
    | exact HK.out _ (Below.refl _ w0).drew
    | exact HK.out _ ym
    | exact HK.out _ y1)
    (first
    | (go_at_call 27; refine marks_k _ _ ok _ x.pods (fun k h => HOK.out k h) (SlK.move intOk HPP.out (fun _ _ => rfl)) hpl ?_; intro vm wm gm hmm
       have ym : Below w0.heap.size w0 wm := Below.of_drew gm)
    | (go_at_call 28; refine HQ.out.ranked _ _ x.key _ vm x.pods x.cmp x.n (HB0.out.trans (ym.mono hs0)) hmm (fun k h => h.2) ?_; intro s b ws w1 g1 hs1 hb1 hS hm
       have y1 : Below w0.heap.size w0 w1 := ym.trans (g1.mono ym.size)))
  all_goals (
    have q01 := (Mod.of_below y1).cell' q0 (fun h => h)
    have q11 := (Mod.of_below y1).cell' q1 (fun h => h)
    have k11 := (Mod.of_below y1).cell' k1 (fun h => h)
    have k61 := (Mod.of_below y1).cell' k6 (fun h => h)
    have k71 := (Mod.of_below y1).cell' k7 (fun h => h)
    have k81 := (Mod.of_below y1).cell' k8 (fun h => h)
    have HS := Lib.hid hS
    have HM := Lib.hid hm
    have Y1 := Lib.hid y1
    have hy1 := y1.size
    clear hS hm y1 g1 hmm
    go_wp2_with fail
    refine rranked_k _ _ ok d x.key _ x.pods x.cmp x.n [_, _] (fun k h => Nat.lt_of_lt_of_le (HOK.out k h) Y1.out.size) (HRD.out.below Y1.out HOK.out) HZ.out (HPP.out.below intOk Y1.out HOK.out) hpl ?_
    intro v2 w2 b12 hl2
    have Y2 := Lib.hid (Y1.out.trans (b12.mono hy1))
    have HL2 := Lib.hid hl2
    have B12 := Lib.hid b12
    obtain ⟨A9, c9, e9, _, _⟩ := hl2.form
    subst e9
    clear hl2 b12
    go_wp2_with fail
    refine membersL_k _ _ (fun k => k < w2.heap.size) (fun k => k < w2.heap.size) _ _ 512 ws (rRankedL d x.key x.pods x.cmp x.n) 512 (fun k h => h) (fun k h => h) (setIn_p HS.out B12.out) (by decide) (SlK.mono intOk (SlK.bnd intOk HL2.out) (fun k h => h.2)) (rRanked_len HZ.out _ _ _ _) ?_
    intro w3 g3
    rw [show (decide (((512 : Nat) : Int) = 512) && decide (natI (mems 512 ws) = (rRankedL d x.key x.pods x.cmp x.n))) = true by rw [HM.out]; simp]
    have hv := HR.out w3 (HB0.out.trans ((Y2.out.trans (g3.mono Y2.out.size)).mono hs0))
    clear g3
    go_wp2_with fail
    exact hv)
theorem sets_k (R : Ending → World → Prop) (w : World) (dv : Value) (d : RDom) (x : AskD) (vp : Value) (ok : Nat → Prop) (cd : List Value) (Q : Asked w dv d) (hok : ∀ k, ok k → k < w.heap.size) (hd : rdomK w ok d cd) (Z : Sized d) (hvp : SlK intsK 1 w ok vp x.pods) (hpl : x.pods.length ≤ 1073741824)
    (hR : ∀ w', Below w.heap.size w w' → R (.returned (.bool true)) w') :
    Calls Tryz.prog 68 #[dv, .agg cd.toArray, .agg (askC x vp)] w R := by
  by_cases h4 : x.kind = 4
  · exact sets4_k R w dv d x vp ok cd Q hok hd Z hvp hpl h4 hR
  by_cases h5 : x.kind = 5
  · exact sets5_k R w dv d x vp ok cd Q hok hd Z hvp hpl h5 hR
  by_cases h7 : x.kind = 7
  · exact sets7_k R w dv d x vp ok cd Q hok hd Z hvp hpl h7 hR
  exact sets9_k R w dv d x vp ok cd Q hok hd Z hvp hpl h4 h5 h7 hR
end Go.Proofs.YtmenipaibjifiaaGreatDoor
