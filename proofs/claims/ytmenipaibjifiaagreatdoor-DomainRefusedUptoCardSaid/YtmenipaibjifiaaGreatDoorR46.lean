/-
berthlaw09: rows.
A change told to both: the reference's lists and what domain.Domains keeps tell the same. Plain Lean; no program.
berthlaw09: wakes.
domain: Apply, whatever the change: what is kept is what applyS says; 0, or 90 where it does not fit.
Two domains that keep the same, and blocks that are nobody's, in one memory. Plain lemmas.
-/
import Derived.Test.YtmenipaibjifiaaGreatDoorR45
import Derived.Test.YtmenipaibjifiaaGreatDoorR44
import Derived.Test.YtmenipaibjifiaaGreatDoorR36
import Derived.Test.YtmenipaibjifiaaGreatDoorR39
import Derived.Test.YtmenipaibjifiaaGreatDoorR41
import Derived.Test.YtmenipaibjifiaaGreatDoorR37
set_option linter.unusedVariables false
set_option linter.unusedSimpArgs false
namespace Go.Proofs.YtmenipaibjifiaaGreatDoor
open Go.RowKit Go.BigFrame Go.Shelf
attribute [local go_sem] Oper.semAt_some

theorem RowsAt.from {w0 w1 w : World} {B1 B2 : Nat} {vs : List ByteArray} {ns : List Int} (h : RowsAt w1 w B1 B2 vs ns) (hs : w0.heap.size ≤ w1.heap.size) : RowsAt w0 w B1 B2 vs ns := by
  obtain ⟨sv, nv, h1, h2, h3, h4, h5, h6, h7, h8⟩ := h
  exact ⟨sv, nv, by omega, h2, by omega, h4, h5, h6, SlK.mono strOk h7 (fun k hk => ⟨by omega, hk.2⟩), SlK.mono intOk h8 (fun k hk => ⟨by omega, hk.2⟩)⟩
theorem RowsAt.below {w0 w w' : World} {B1 B2 : Nat} {vs : List ByteArray} {ns : List Int} (h : RowsAt w0 w B1 B2 vs ns) (hb : Below w.heap.size w w') : RowsAt w0 w' B1 B2 vs ns := by
  obtain ⟨sv, nv, h1, h2, h3, h4, h5, h6, h7, h8⟩ := h
  have hs := hb.size
  have hm := Mod.of_below hb
  exact ⟨sv, nv, h1, by omega, h3, by omega, hm.cell' h5 (fun h => h), hm.cell' h6 (fun h => h), SlK.mono strOk (SlK.below strOk h7 hb (fun k hk => hk.2)) (fun k hk => ⟨hk.1, by omega⟩), SlK.mono intOk (SlK.below intOk h8 hb (fun k hk => hk.2)) (fun k hk => ⟨hk.1, by omega⟩)⟩
theorem rrow_cells {w : World} {ok : Nat → Prop} {b off : Nat} {l : List RRow} (h : ∀ j (hj : j < l.length), ∃ cs, rrowK w ok (l[j]'hj) cs ∧ cs.length = 2 ∧ ∀ i u, cs[i]? = some u → w.cell? ⟨b, off + (j * 2 + i), none⟩ = some u) (k : Nat) (hk : k < l.length) :
    w.cell? ⟨b, off + k * 2, none⟩ = some (.string (l[k]'hk).value) ∧ w.cell? ⟨b, off + k * 2 + 1, none⟩ = some (.int .i64 (l[k]'hk).n) := by
  obtain ⟨cs, h1, _, hc⟩ := h k hk
  cases h1
  exact ⟨hc 0 _ rfl, hc 1 _ rfl⟩
theorem run_equalIn_func_nil {P : Program} (w : World) (d : Nat) {t : TypeId} {a b : Array TypeId} {c : Bool} (f : Fn) (x y : Array Value) (h : P.underlying t = some (.func a b c)) : (Op.equalIn (d + 1) t (.func f x y) .nilFunc).run P w = .ok false w := by
  simp [Op.equalIn, run_underlying h]
theorem run_eql_func_nil {P : Program} (w : World) {t : TypeId} {a b : Array TypeId} {c : Bool} (f : Fn) (x y : Array Value) (h : P.underlying t = some (.func a b c)) : (binOp .eql t (.func f x y) .nilFunc).run P w = .ok (.bool false) w := by
  simp only [binOp]
  simp [Op.equal, Op.maxDepth, run_equalIn_func_nil w 9999 f x y h]
theorem rows_not_nil (w : World) (B1 B2 : Nat) : (binOp .eql 64 (fnRows B1 B2) .nilFunc).run Tryz.prog w = .ok (.bool false) w := run_eql_func_nil w _ _ _ Tryz.underlying64
theorem _root_.Go.RowKit.Below.keep_ {w w' : World} (h : Below w.heap.size w w') {b : Nat} {o : Obj} (ho : w.heap[b]? = some o) : w'.heap[b]? = some o := (h.block b (Array.getElem?_eq_some_iff.1 ho).1).trans ho
theorem setIn_p {w w' : World} {s b n : Nat} {ws : List Nat} (h : SetIn w s b n ws) (hb : Below w.heap.size w w') : SetP w' (fun k => k < w'.heap.size) (.pointer (some ⟨s, 0, none⟩)) n ws := by
  have hl := h.lt
  have hs := hb.size
  exact .inr ⟨s, b, rfl, h.move (hb.block _ hl.1) (hb.block _ hl.2), by omega, by omega⟩
/-- The rounds so far: the counter's cell. -/
def RowI (wd : World) (bi : Nat) (want : List RRow) (pre : List (ByteArray × Int)) (W : World) : Prop :=
  pre <+: want.map rowP ∧ Mod (fun k => k = bi) wd W ∧ W.heap[bi]? = some (.cells #[.int .i64 (pre.length : Nat)] 3)
theorem rowI_own {wd : World} {bi : Nat} {want : List RRow} {B : Nat} (hB : wd.heap.size ≤ B) (hbi : bi < wd.heap.size) : OwnFrom B (RowI wd bi want) := by
  rintro s W W' row ⟨h1, h2, h3⟩ hg hr
  have hX : Mod (fun k => row = some k) W W' := ⟨hg.os, hg.tape, hg.output, hg.size, fun k hk hne => hg.block k hk (fun e => hne e.symm)⟩
  refine ⟨h1, h2.trans hX (fun i hi e => ?_), hX.keep h3 (fun e => ?_)⟩
  · have := (hr i e).1
    omega
  · have := (hr bi e).1
    omega
set_option maxRecDepth 100000 in
set_option maxHeartbeats 40000000 in
theorem lawRows_k (R : Ending → World → Prop) (w : World) (dv : Value) (d : RDom) (x : AskD) (vp vw : Value) (want : List RRow) (ok : Nat → Prop) (Q : Asked w dv d) (hok : ∀ k, ok k → k < w.heap.size) (hvp : SlK intsK 1 w ok vp x.pods) (hpl : x.pods.length ≤ 1073741824)
    (hw : SlK rrowK 2 w ok vw want) (hwant : want = if x.kind = 8 then rTallyL d x.key x.pods else rValuesL d x.key)
    (hR : ∀ w', Below w.heap.size w w' → R (.returned (.bool true)) w') :
    Calls Tryz.prog 63 #[dv, .agg (askC x vp), vw] w R := by
  have HR := Lib.hid hR
  have HQ := Lib.hid Q
  have HOK := Lib.hid hok
  have HVP := Lib.hid hvp
  have HW := Lib.hid hw
  have HWT := Lib.hid hwant
  obtain ⟨Ap, cp, ep, hlp, _⟩ := hvp.form
  subst ep
  obtain ⟨Aw, cw, ew, hlw, _⟩ := hw.form
  subst ew
  clear hR Q hok hvp hw hwant
  refine callsIn_wide.1 (callsIn_of_wp_marks (n := 6) Tryz.func63 rfl trivial ?_ rfl)
  refine wpIn_wide.2 ?_
  simp only [Tryz.ntmps63, List.size_toArray, List.length_cons, List.length_nil, Nat.reduceAdd, Nat.reduceSub, Array.replicate_succ, Array.replicate_zero, List.push_toArray, List.append_toArray, List.nil_append, List.cons_append]
  let hbp := bodyPost Tryz.prog Tryz.f63 R
  have o0 : (((w.alloc (.cells (askC x (.slice Ap x.pods.length cp)) 45)).alloc (.cells #[.slice Aw want.length cw] 146)).alloc (.cells #[.bool false] 4)).heap[w.heap.size]? = some (.cells (askC x (.slice Ap x.pods.length cp)) 45) := heap_keep (heap_keep (heap_alloc_new _ _) _) _
  have o1 : (((w.alloc (.cells (askC x (.slice Ap x.pods.length cp)) 45)).alloc (.cells #[.slice Aw want.length cw] 146)).alloc (.cells #[.bool false] 4)).heap[w.heap.size + 1]? = some (.cells #[.slice Aw want.length cw] 146) := by
    have := heap_alloc_new (w.alloc (.cells (askC x (.slice Ap x.pods.length cp)) 45)) (.cells #[.slice Aw want.length cw] 146)
    rw [World.size_alloc] at this
    exact heap_keep this _
  have o2 : (((w.alloc (.cells (askC x (.slice Ap x.pods.length cp)) 45)).alloc (.cells #[.slice Aw want.length cw] 146)).alloc (.cells #[.bool false] 4)).heap[w.heap.size + 2]? = some (.cells #[.bool false] 4) := by
    have := heap_alloc_new ((w.alloc (.cells (askC x (.slice Ap x.pods.length cp)) 45)).alloc (.cells #[.slice Aw want.length cw] 146)) (.cells #[.bool false] 4)
    rwa [World.size_alloc, World.size_alloc] at this
  have hB0 : Below w.heap.size w (((w.alloc (.cells (askC x (.slice Ap x.pods.length cp)) 45)).alloc (.cells #[.slice Aw want.length cw] 146)).alloc (.cells #[.bool false] 4)) := Below.alloc (Below.alloc (Below.alloc (Below.refl _ _) (Nat.le_refl _) _) (by simp) _) (by simp; omega) _
  go_upto_region 1 with fail
  generalize hW0 : ((w.alloc (.cells (askC x (.slice Ap x.pods.length cp)) 45)).alloc (.cells #[.slice Aw want.length cw] 146)).alloc (.cells #[.bool false] 4) = w0 at *
  clear hW0
  have HB0 := Lib.hid hB0
  have hs0 := hB0.size
  have q0 : w0.cell? ⟨w.heap.size, 0, none⟩ = some (.int .i64 x.kind) := cell_at o0 rfl
  have q1 : w0.cell? ⟨w.heap.size, 1, none⟩ = some (.string x.key) := cell_at o0 rfl
  have q6 : w0.cell? ⟨w.heap.size, 6, none⟩ = some (.slice Ap x.pods.length cp) := cell_at o0 rfl
  have hw2 : w.heap.size + 2 < w0.heap.size := (Array.getElem?_eq_some_iff.1 o2).1
  clear hB0 o0
  go_wp2_with fail
  refine HQ.out.values _ _ x.key HB0.out ?_
  intro B1 B2 vs ns w1 g1 hr1 hln hvl hz
  have HG1 := Lib.hid g1
  have HR1 := Lib.hid hr1
  have HZ := Lib.hid hz
  have HLN := Lib.hid hln
  have q0w := (Mod.of_below g1).cell' q0 (fun h => h)
  have q1w := (Mod.of_below g1).cell' q1 (fun h => h)
  have q6w := (Mod.of_below g1).cell' q6 (fun h => h)
  have hs1 := g1.size
  clear g1 hr1 hz hln q0 q1 q6
  go_upto_region 2 with fail
  go_cut [7, 17] (fun v v17 wr => v = fnRows B1 B2 ∧ v17 = .bool (x.kind == 8) ∧ w1 = wr)
  case first =>
    go_wp2_with fail
    go_meet
    exact ⟨rfl, rfl, rfl⟩
  obtain ⟨rfl, rfl, rfl⟩ := hcut
  go_step
  go_cut [7] (fun v wr => ∃ B1 B2 vs ns, v = fnRows B1 B2 ∧ RowsAt w0 wr B1 B2 vs ns ∧ ns.length = vs.length ∧ vs.length ≤ 1048576 ∧ vs.zip ns = want.map rowP ∧ Below w0.heap.size w0 wr)
  case first =>
    by_cases hk : x.kind = 8
    · have hwt := HWT.out
      rw [if_pos hk] at hwt
      have HWQ := Lib.hid hwt
      have hk2 : (x.kind == 8) = true := by simpa using hk
      clear hwt hk
      have hbw := HB0.out.trans (HG1.out.mono hs0)
      have HBW := Lib.hid hbw
      have HP1 := Lib.hid (HVP.out.below intOk hbw HOK.out)
      have HO1 := Lib.hid (show ∀ k, ok k → k < w1.heap.size from fun k h => Nat.lt_of_lt_of_le (HOK.out k h) hbw.size)
      have hsw := hbw.size
      clear hbw
      have HK := Lib.hid (show ∀ w', Below w1.heap.size w1 w' → Below w1.heap.size w1 w' ∧ w'.cell? ⟨w.heap.size, 1, none⟩ = some (.string x.key) ∧ w'.cell? ⟨w.heap.size, 6, none⟩ = some (.slice Ap x.pods.length cp) from
        fun w' hw => ⟨hw, (Mod.of_below hw).cell' q1w (fun h => h), (Mod.of_below hw).cell' q6w (fun h => h)⟩)
      go_wp2_with fail
      go_region_held3 (fun w' => Below w1.heap.size w1 w' ∧ w'.cell? ⟨w.heap.size, 1, none⟩ = some (.string x.key) ∧ w'.cell? ⟨w.heap.size, 6, none⟩ = some (.slice Ap x.pods.length cp))
        (first
        | exact HK.out _ (Below.refl _ w1).drew
        | exact HK.out _ y1
        | exact HK.out _ z1)
        (first
        | (go_at_call 27; refine marks_k _ _ ok _ x.pods (fun k h => HO1.out k h) (SlK.move intOk HP1.out (fun _ _ => rfl)) hpl ?_; intro vm w2 g2 hm2
           have y1 : Below w1.heap.size w1 w2 := Below.of_drew g2)
        | (go_at_call 45; refine HQ.out.tally _ _ x.key _ vm x.pods (HBW.out.trans (y1.mono hsw)) hm2 (fun k h => h.2) ?_; intro B3 B4 vs2 ns2 w3 g3 hr3 hln3 hvl3 hz3
           have z1 : Below w1.heap.size w1 w3 := y1.trans (g3.mono y1.size)))
      all_goals (
        go_wp2_with fail
        go_meet
        exact ⟨B3, B4, vs2, ns2, rfl, hr3.from (Nat.le_trans hs1 y1.size), hln3, hvl3, by rw [HWQ.out]; exact hz3, HG1.out.trans (z1.mono hs1)⟩)
    · have hwt := HWT.out
      rw [if_neg hk] at hwt
      have HWQ := Lib.hid hwt
      have hk2 : (x.kind == 8) = false := by simpa using hk
      clear hwt hk
      go_wp2_with fail
      go_meet
      exact ⟨B1, B2, vs, ns, rfl, HR1.out, HLN.out, hvl, by rw [HWQ.out]; exact HZ.out, HG1.out⟩
  case rest =>
    clear q0w q1w q6w hvl HR1 HZ HLN HG1 hs1
    obtain ⟨B1', B2', vs', ns', rfl, hr, hln, hvl', hz, hB⟩ := hcut
    have hsw := hB.size
    have o1w := (hB.block (w.heap.size + 1) (by omega)).trans o1
    have o2w := (hB.block (w.heap.size + 2) (by omega)).trans o2
    have HO1W := Lib.hid o1w
    have HO2W := Lib.hid o2w
    have HBB := Lib.hid hB
    have HRR := Lib.hid hr
    have HZZ := Lib.hid hz
    clear hB hr hz o1 o2 o1w o2w
    have zf := rows_not_nil wc B1' B2'
    go_wp2_with fail
    obtain ⟨sv, nv, hA1, hA2, hA3, hA4, hc1, hc2, hI1, hI2⟩ := HRR.out
    have d0 := heap_alloc_new wc (.cells #[.int .i64 0] 3)
    have hD : Below wc.heap.size wc (wc.alloc (.cells #[.int .i64 0] 3)) := Below.alloc (Below.refl _ _) (Nat.le_refl _) _
    have hsd : wc.heap.size < (wc.alloc (.cells #[.int .i64 0] 3)).heap.size := by simp
    generalize hWd : wc.alloc (.cells #[.int .i64 0] 3) = wd at *
    clear hWd
    have HD := Lib.hid hD
    have hN : (vs'.zip ns').length = want.length := by rw [HZZ.out, List.length_map]
    have o1d := hD.keep_ HO1W.out
    have o2d := hD.keep_ HO2W.out
    have hwd : Below w.heap.size w wd := HB0.out.trans ((HBB.out.trans (hD.mono hsw)).mono hs0)
    have HWD := Lib.hid hwd
    have HO1D := Lib.hid o1d
    have HO2D := Lib.hid o2d
    have hbw : w.heap.size ≤ wc.heap.size := by omega
    have hb2 : w.heap.size + 2 < wc.heap.size := by omega
    clear o1d o2d hwd zf
    refine (wpIn_wide (n := 6)).1 ?_
    refine' wpIn_rangeFunc_ownG (α := ByteArray × Int) (F := Fence.wide) (n := 6) rfl (by decide) (gf := 156) (lb := #[.pointer (some ⟨B1', 0, none⟩), .pointer (some ⟨B2', 0, none⟩)]) rfl trivial (enters_of Tryz.func156 (by kernel_rfl) rfl)
      (rows_stops Fence.wide 5 trivial rfl (by decide) w0.heap.size B1' B2' sv nv vs' ns' hln (by omega) wc ⟨hA1, hA2⟩ ⟨hA3, hA4⟩ hc1 hc2 hI1 hI2) (fun {A B C} h k => KeepB.trans h k) (fun W l o o' hl h h1 h2 => keepB_b (w := wd) (by omega) W l o o' hl h h1 h2) hD (fun _ => rfl)
      (RowI wd wc.heap.size want) (fun _ pre _ => ¬ pre <+: want.map rowP) (rowI_own (Nat.le_refl _) hsd) (fun _ _ _ _ _ hs _ _ => hs) ?h0 _ ?assign ?body ?done ?stop
    case h0 => exact ⟨List.nil_prefix, Mod.refl _ _, d0⟩
    case assign =>
      intro l0 x W K hK
      gi_wp2
      exact hK
    case stop =>
      intro D c pre W hD hSp hIx
      exact absurd (by rw [← HZZ.out]; exact hSp) hIx
    case done =>
      rintro D xs W1 hD1 rfl ⟨-, hM, hc⟩ hK1
      rw [hN] at hc
      have y8 : W1.cell? ⟨wc.heap.size, 0, none⟩ = some (.int .i64 (want.length : Nat)) := cell_at hc rfl
      have y5 : W1.cell? ⟨w.heap.size + 1, 0, none⟩ = some (.slice Aw want.length cw) := cell_at (hM.keep HO1D.out (by omega)) rfl
      have o2e := hM.keep HO2D.out (show ¬ w.heap.size + 2 = wc.heap.size by omega)
      have y6 : W1.cell? ⟨w.heap.size + 2, 0, none⟩ = some (.bool false) := cell_at o2e rfl
      have f6 : W1.frozen? ⟨w.heap.size + 2, 0, none⟩ = false := frozen_at o2e
      have hq : ((want.length : Int) == (want.length : Int)) = true := by simp
      have HMM := Lib.hid hM
      have HK1 := Lib.hid hK1
      have HO2E := Lib.hid o2e
      clear hM hc hK1 o2e
      go_wp2_with fail
      show LeavesInM _ _ _ _ _ _ _ _ _
      have hDl := (Array.getElem?_eq_some_iff.1 HK1.out).1
      have hM1 : Mod (fun k => k = w.heap.size + 2) W1 (W1.setCell ⟨w.heap.size + 1 + 1, 0, none⟩ (.bool true)) := (Mod.refl (fun k => k = w.heap.size + 2) W1).setCell (p := ⟨w.heap.size + 1 + 1, 0, none⟩) (fun _ => rfl) _
      have oE : (W1.setCell ⟨w.heap.size + 1 + 1, 0, none⟩ (.bool true)).heap[w.heap.size + 2]? = some (.cells #[.bool true] 4) := heap_setCell_at HO2E.out
      refine leaves_marks [D] _ (by simp) (fun E hE => by
        obtain rfl := List.mem_singleton.1 hE
        exact hM1.keep HK1.out (by omega)) (fun w' hw' => ?_)
      have oF := hw'.keep oE (fun h => by
        have := List.mem_singleton.1 h
        omega)
      have x_0 : w'.cell? ⟨w.heap.size + 2, 0, none⟩ = some (.bool true) := cell_at oF rfl
      have hb1 : Below w.heap.size wd W1 := HMM.out.below (by omega) (fun k e => by rw [e]; exact hbw)
      have hb2 : Below w.heap.size W1 (W1.setCell ⟨w.heap.size + 1 + 1, 0, none⟩ (.bool true)) := hM1.below (by have := HMM.out.size; omega) (fun k e => by rw [e]; omega)
      have hb3 : Below w.heap.size (W1.setCell ⟨w.heap.size + 1 + 1, 0, none⟩ (.bool true)) w' := hw'.below (by have := HMM.out.size; have := hM1.size; omega) (fun k e => by
        have := List.mem_singleton.1 e
        omega)
      have hqv := HR.out w' ((HWD.out.trans hb1).trans (hb2.trans hb3))
      clear oE oF hb1 hb2 hb3 hM1
      refine ⟨_, ?_, hqv⟩
      simp [results, Tryz.results63, go_sem, x_0]
    case body =>
      intro l0 pre x W hI hlen
      obtain ⟨hp, hM, hc⟩ := hI
      have hplt : pre.length < want.length := by omega
      have y8 : W.cell? ⟨wc.heap.size, 0, none⟩ = some (.int .i64 (pre.length : Nat)) := cell_at hc rfl
      have f8 : W.frozen? ⟨wc.heap.size, 0, none⟩ = false := frozen_at hc
      have y5 : W.cell? ⟨w.heap.size + 1, 0, none⟩ = some (.slice Aw want.length cw) := cell_at (hM.keep HO1D.out (by omega)) rfl
      have o2e := hM.keep HO2D.out (show ¬ w.heap.size + 2 = wc.heap.size by omega)
      have y6 : W.cell? ⟨w.heap.size + 2, 0, none⟩ = some (.bool false) := cell_at o2e rfl
      have f6 : W.frozen? ⟨w.heap.size + 2, 0, none⟩ = false := frozen_at o2e
      have hWW : Below w.heap.size w W := HWD.out.trans (hM.below (by omega) (fun k e => by rw [e]; exact hbw))
      have hwW := HW.out.below rrowOk hWW HOK.out
      obtain ⟨b, off, c', he, _, _, hbk, hbl, hce⟩ := hwW.addr (by omega)
      simp only [Value.slice.injEq] at he
      obtain ⟨rfl, -, rfl⟩ := he
      obtain ⟨z0, z1⟩ := rrow_cells hce pre.length hplt
      have hnext : x = rowP (want[pre.length]'hplt) → pre ++ [x] <+: want.map rowP := fun e => by
        have h1 : pre = (want.map rowP).take pre.length := List.prefix_iff_eq_take.1 hp
        have h2 : pre ++ [x] = (want.map rowP).take (pre.length + 1) := by
          rw [List.take_succ_eq_append_getElem (by rw [List.length_map]; exact hplt), ← h1, List.getElem_map, e]
        rw [h2]
        exact List.take_prefix _ _
      have hstop : x ≠ rowP (want[pre.length]'hplt) → ¬ pre ++ [x] <+: want.map rowP := fun hne h => by
        have h2 := List.prefix_iff_eq_take.1 h
        have h3 : (pre ++ [x])[pre.length]? = some (rowP (want[pre.length]'hplt)) := by
          rw [h2, List.getElem?_take]
          simp [hplt]
        simp at h3
        exact hne h3
      obtain ⟨rv, hrv⟩ : ∃ rv, (want[pre.length]'hplt).value = rv := ⟨_, rfl⟩
      obtain ⟨rn, hrn⟩ : ∃ rn, (want[pre.length]'hplt).n = rn := ⟨_, rfl⟩
      have hrow : rowP (want[pre.length]'hplt) = (rv, rn) := by unfold rowP; rw [hrv, hrn]
      rw [hrow] at hnext hstop
      rw [hrv] at z0
      rw [hrn] at z1
      have HNEXT := Lib.hid hnext
      have HSTOP := Lib.hid hstop
      have HMM := Lib.hid hM
      have HCC := Lib.hid hc
      have HO2E := Lib.hid o2e
      have hge : decide ((want.length : Int) ≤ (pre.length : Int)) = false := by simp; omega
      have hgn : decide (want.length ≤ pre.length) = false := by simp; omega
      clear hnext hstop hM hc hWW hwW hce hp hrow hrv hrn o2e
      obtain ⟨xv, xn⟩ := x
      have hM8 : Mod (fun k => k = wc.heap.size) W (W.setCell ⟨wc.heap.size, 0, none⟩ (.int .i64 ((pre.length : Nat) + 1 : Int))) := (Mod.refl (fun k => k = wc.heap.size) W).setCell (p := ⟨wc.heap.size, 0, none⟩) (fun _ => rfl) _
      have hM6 : Mod (fun k => k = w.heap.size + 2) W (W.setCell ⟨w.heap.size + 1 + 1, 0, none⟩ (.bool false)) := (Mod.refl (fun k => k = w.heap.size + 2) W).setCell (p := ⟨w.heap.size + 1 + 1, 0, none⟩) (fun _ => rfl) _
      have HM8 := Lib.hid hM8
      have HM6 := Lib.hid hM6
      clear hM8 hM6
      cases t1 : (xv.toList == rv.toList) with
      | false =>
        gi_wp2
        exact ⟨⟨HM6.out.size, fun j o hj hk0 _ => HM6.out.keep hk0 (by omega)⟩, HSTOP.out (fun e => by rw [Prod.mk.injEq] at e; rw [e.1] at t1; simp at t1)⟩
      | true =>
        cases t2 : (xn != rn) with
        | true =>
          gi_wp2
          exact ⟨⟨HM6.out.size, fun j o hj hk0 _ => HM6.out.keep hk0 (by omega)⟩, HSTOP.out (fun e => by rw [Prod.mk.injEq] at e; rw [e.2] at t2; simp at t2)⟩
        | false =>
          have hxe : (xv, xn) = (rv, rn) := by
            rw [ba_toList_beq] at t1
            simp at t1 t2
            rw [t1, t2]
          have HXE := Lib.hid hxe
          have hzl : (vs'.zip ns').length = vs'.length := by rw [List.length_zip, hln]; simp
          have hwr : RowKit.wrap64 ((pre.length : Int) + 1) = (pre.length : Int) + 1 := by unfold RowKit.wrap64; omega
          have HWR := Lib.hid hwr
          clear hxe hwr
          gi_wp2
          try rw [HWR.out]
          exact ⟨⟨HM8.out.size, fun j o hj hk0 _ => HM8.out.keep hk0 (by omega)⟩, KeepB.of_mod HM8.out (fun j h1 h2 => by omega), HNEXT.out HXE.out, HMM.out.seq HM8.out, by
            have := heap_setCell_at (i := 0) (v := .int .i64 ((pre.length : Nat) + 1 : Int)) HCC.out
            simpa using this⟩
end Go.Proofs.YtmenipaibjifiaaGreatDoor

namespace Go.Proofs.YtmenipaibjifiaaGreatDoor
open Go.RowKit

open Classical in
noncomputable def applyS (S : St) (x : Chg) : St :=
  if fitsS S x = false then S
  else if x.kind = 1 then addNode S x.slot x.now.labels
  else if x.kind = 2 then delNode S x.slot
  else if x.kind = 3 then setNode S x.slot x.now.labels
  else if x.kind = 4 then addPod S x.slot x.podSlot x.pod.labels
  else delPod S x.slot x.podSlot
section
variable {α : Type} {f : α → Int}
theorem takeWhile_rise (s : Int) : ∀ {l : List α}, l.Pairwise (fun a b => f a < f b) → l.takeWhile (fun x => decide (f x < s)) = l.filter (fun x => decide (f x < s)) ∧ (l.dropWhile (fun x => decide (f x < s))).filter (fun x => !decide (f x = s)) = l.filter (fun x => decide (s < f x))
  | [], _ => ⟨rfl, rfl⟩
  | a :: r, h => by
    rw [List.pairwise_cons] at h
    obtain ⟨h1, h2⟩ := takeWhile_rise s h.2
    by_cases e : f a < s
    · rw [List.takeWhile_cons_of_pos (by simpa using e), List.filter_cons_of_pos (by simpa using e), List.dropWhile_cons_of_pos (by simpa using e), h1, h2, List.filter_cons_of_neg (by simp; omega)]
      exact ⟨rfl, rfl⟩
    · rw [List.takeWhile_cons_of_neg (by simpa using e), List.filter_cons_of_neg (by simpa using e), List.dropWhile_cons_of_neg (by simpa using e)]
      constructor
      · symm
        rw [List.filter_eq_nil_iff]
        intro b hb
        have := h.1 b hb
        simp; omega
      · refine List.filter_congr fun b hb => ?_
        rcases List.mem_cons.1 hb with e2 | e2
        · subst e2
          by_cases e3 : f b = s
          · simp [e3]
          · have : s < f b := by omega
            simp [e3, this]
        · have := h.1 b e2
          have h3 : ¬ f b = s := by omega
          have h4 : s < f b := by omega
          simp [h3, h4]
def withG (f : α → Int) (l : List α) (s : Int) (n : List α) : List α := l.takeWhile (fun x => decide (f x < s)) ++ n ++ (l.dropWhile (fun x => decide (f x < s))).filter (fun x => !decide (f x = s))
theorem withG_mem {l : List α} (h : l.Pairwise (fun a b => f a < f b)) (s : Int) (n : List α) (x : α) : x ∈ withG f l s n ↔ (x ∈ l ∧ f x ≠ s) ∨ x ∈ n := by
  unfold withG
  obtain ⟨h1, h2⟩ := takeWhile_rise s h
  rw [h1, h2]
  simp only [List.mem_append, List.mem_filter, decide_eq_true_eq]
  constructor
  · rintro ((⟨a, b⟩ | a) | ⟨a, b⟩)
    · exact .inl ⟨a, by omega⟩
    · exact .inr a
    · exact .inl ⟨a, by omega⟩
  · rintro (⟨a, b⟩ | a)
    · rcases Int.lt_or_gt_of_ne b with c | c
      · exact .inl (.inl ⟨a, c⟩)
      · exact .inr ⟨a, c⟩
    · exact .inl (.inr a)
theorem withG_rise {l : List α} (h : l.Pairwise (fun a b => f a < f b)) (s : Int) {n : List α} (hn : n.Pairwise (fun a b => f a < f b)) (hs : ∀ x ∈ n, f x = s) : (withG f l s n).Pairwise (fun a b => f a < f b) := by
  unfold withG
  obtain ⟨h1, h2⟩ := takeWhile_rise s h
  rw [h1, h2, List.pairwise_append, List.pairwise_append]
  refine ⟨⟨h.filter _, hn, fun a ha b hb => ?_⟩, h.filter _, fun a ha b hb => ?_⟩
  · have := hs b hb
    rw [List.mem_filter] at ha
    have h3 := ha.2
    simp only [decide_eq_true_eq] at h3
    omega
  · rw [List.mem_filter] at hb
    have h4 := hb.2
    simp only [decide_eq_true_eq] at h4
    rcases List.mem_append.1 ha with ha | ha
    · rw [List.mem_filter] at ha
      have h3 := ha.2
      simp only [decide_eq_true_eq] at h3
      omega
    · have := hs a ha
      omega
theorem withG_put {l : List α} (h : l.Pairwise (fun a b => f a < f b)) (s : Int) (y : α) (hy : f y = s) (t : Int) : (withG f l s [y]).find? (fun x => decide (f x = t)) = if t = s then some y else l.find? (fun x => decide (f x = t)) := by
  have hr := withG_rise h s (n := [y]) (by simp) (by simpa using hy)
  refine Option.ext fun x => ?_
  rw [find_slot_iff hr, withG_mem h]
  by_cases e : t = s
  · rw [if_pos e]
    simp only [List.mem_singleton, Option.some.injEq]
    constructor
    · rintro ⟨⟨a, b⟩ | a, c⟩
      · omega
      · exact a.symm
    · rintro rfl
      exact ⟨.inr rfl, by omega⟩
  · rw [if_neg e, find_slot_iff h]
    simp only [List.mem_singleton]
    constructor
    · rintro ⟨⟨a, b⟩ | a, c⟩
      · exact ⟨a, c⟩
      · subst a; omega
    · rintro ⟨a, b⟩
      exact ⟨.inl ⟨a, by omega⟩, b⟩
theorem withG_del {l : List α} (h : l.Pairwise (fun a b => f a < f b)) (s : Int) (t : Int) : (withG f l s []).find? (fun x => decide (f x = t)) = if t = s then none else l.find? (fun x => decide (f x = t)) := by
  have hr := withG_rise h s (n := []) (by simp) (by simp)
  refine Option.ext fun x => ?_
  rw [find_slot_iff hr, withG_mem h]
  by_cases e : t = s
  · rw [if_pos e]
    simp only [List.not_mem_nil, or_false]
    constructor
    · rintro ⟨⟨a, b⟩, c⟩; omega
    · intro h; cases h
  · rw [if_neg e, find_slot_iff h]
    simp only [List.not_mem_nil, or_false]
    constructor
    · rintro ⟨⟨a, b⟩, c⟩; exact ⟨a, c⟩
    · rintro ⟨a, b⟩; exact ⟨⟨a, by omega⟩, b⟩
end
theorem withNode_G (l : List RNode) (s : Int) (n : List RNode) : withNode l s n = withG (·.slot) l s n := rfl
theorem withPod_G (l : List RPod) (s : Int) (n : List RPod) : withPod l s n = withG (·.slot) l s n := rfl
section
variable {d : RDom} {S : St}
theorem nodeAt_iff (d : RDom) (s : Int) : (nodeAt d s < 0 ↔ rNodeAt d s = none) ∧ (0 ≤ nodeAt d s ↔ (rNodeAt d s).isSome = true) := by
  unfold nodeAt rNodeAt
  rcases idx_find (fun x : RNode => decide (x.slot = s)) d.nodes with ⟨h1, h2⟩ | ⟨k, hk, h1, h2⟩
  · rw [h1, h2]; simp
  · rw [h1, h2]; simp
theorem podAt_iff (d : RDom) (s : Int) : (podAt d s < 0 ↔ rPodAt d s = none) ∧ (0 ≤ podAt d s ↔ (rPodAt d s).isSome = true) := by
  unfold podAt rPodAt
  rcases idx_find (fun x : RPod => decide (x.slot = s)) d.pods with ⟨h1, h2⟩ | ⟨k, hk, h1, h2⟩
  · rw [h1, h2]; simp
  · rw [h1, h2]; simp
theorem mine_eq (d : RDom) (p s : Int) : (match d.pods.findIdx? (fun x : RPod => decide (x.slot = p)) with | some k => (d.pods[k]?.map (fun q => q.on)) == some s | none => false) = ((rPodAt d p).map (·.on) == some s) := by
  unfold rPodAt
  rcases idx_find (fun x : RPod => decide (x.slot = p)) d.pods with ⟨h1, h2⟩ | ⟨k, hk, h1, h2⟩
  · rw [h1]
    unfold idxBy at h2
    cases e : d.pods.findIdx? (fun x : RPod => decide (x.slot = p)) with
    | none => rfl
    | some j => rw [e] at h2; simp only at h2; omega
  · rw [h1]
    unfold idxBy at h2
    cases e : d.pods.findIdx? (fun x : RPod => decide (x.slot = p)) with
    | none => rw [e] at h2; simp only at h2; omega
    | some j =>
      rw [e] at h2
      simp only at h2
      obtain rfl : j = k := by omega
      simp only [List.getElem?_eq_getElem hk]
theorem Tells.on_empty (T : Tells d S) (s : Int) : ((onL S s).length == 0) = !(d.pods.any (fun x : RPod => decide (x.on = s))) := by
  cases e : d.pods.any (fun x : RPod => decide (x.on = s)) with
  | true =>
    obtain ⟨x, hx, h1⟩ := List.any_eq_true.1 e
    simp only [decide_eq_true_eq] at h1
    have h2 := T.pod_of hx
    have : x.slot.toNat ∈ onL S s := by
      rw [T.inv.onL_mem]
      refine ⟨by omega, ?_⟩
      unfold podNode
      rw [show ((x.slot.toNat : Nat) : Int) = x.slot by omega, h2.1, ← h1]; rfl
    have := List.length_pos_of_mem this
    simp; intro h; rw [h] at this; simp at this
  | false =>
    rw [List.any_eq_false] at e
    have : onL S s = [] := by
      rw [List.eq_nil_iff_forall_not_mem]
      intro p hp
      rw [T.inv.onL_mem] at hp
      obtain ⟨h1, h2⟩ := hp
      unfold podNode at h2
      rw [T.pods] at h2
      cases h3 : rPodAt d p with
      | none => rw [h3] at h2; cases h2
      | some x =>
        rw [h3] at h2
        have := e x (T.podAt h3).1
        simp at h2
        simp [h2] at this
    rw [this]; rfl
theorem Tells.fits (T : Tells d S) (x : Chg) : fitsR d x = fitsS S x := by
  have hn := T.nodes x.slot
  have hg := T.pods x.podSlot
  have hns : (S.nodes x.slot).isSome = (rNodeAt d x.slot).isSome := by rw [hn, Option.isSome_map]
  have hgs : (S.guests x.podSlot).isSome = (rPodAt d x.podSlot).isSome := by rw [hg, Option.isSome_map]
  obtain ⟨n1, n2⟩ := nodeAt_iff d x.slot
  obtain ⟨p1, p2⟩ := podAt_iff d x.podSlot
  have b1 : decide (Go.Proofs.YtmenipaibjifiaaGreatDoor.nodeAt d x.slot < 0) = !(S.nodes x.slot).isSome := by
    rw [hns]
    cases e : rNodeAt d x.slot with
    | none => simpa using n1.2 e
    | some y => rw [e] at n2; simp at n2 ⊢; omega
  have b2 : decide (0 ≤ Go.Proofs.YtmenipaibjifiaaGreatDoor.nodeAt d x.slot) = (S.nodes x.slot).isSome := by
    rw [hns]
    cases e : (rNodeAt d x.slot).isSome with
    | false => simp only [decide_eq_false_iff_not]; intro h; rw [n2.1 h] at e; cases e
    | true => simpa using n2.2 e
  have b3 : decide (Go.Proofs.YtmenipaibjifiaaGreatDoor.podAt d x.podSlot < 0) = !(S.guests x.podSlot).isSome := by
    rw [hgs]
    cases e : rPodAt d x.podSlot with
    | none => simpa using p1.2 e
    | some y => rw [e] at p2; simp at p2 ⊢; omega
  have b4 : decide (0 ≤ Go.Proofs.YtmenipaibjifiaaGreatDoor.podAt d x.podSlot) = (S.guests x.podSlot).isSome := by
    rw [hgs]
    cases e : (rPodAt d x.podSlot).isSome with
    | false => simp only [decide_eq_false_iff_not]; intro h; rw [p2.1 h] at e; cases e
    | true => simpa using p2.2 e
  have b5 := T.on_empty x.slot
  have b6 := mine_eq d x.podSlot x.slot
  have hbn : (S.nodes x.slot).isSome = true → 0 ≤ x.slot ∧ x.slot < 512 := fun h => by
    obtain ⟨l, hl⟩ := Option.isSome_iff_exists.1 h
    have := T.inv.nb _ _ hl
    exact ⟨this.1, this.2.1⟩
  unfold fitsR fitsS fitsC
  rw [b1, b2, b3, b4]
  by_cases hb : x.slot < 0 ∨ 512 ≤ x.slot
  · rw [if_pos hb]
    have hno : (S.nodes x.slot).isSome = false := by
      cases e : (S.nodes x.slot).isSome with
      | false => rfl
      | true => have := hbn e; omega
    rw [hno]
    have : (decide (0 ≤ x.slot) && decide (x.slot < 512)) = false := by
      rcases hb with h | h
      · rw [decide_eq_false (by omega : ¬ 0 ≤ x.slot)]; rfl
      · rw [decide_eq_false (by omega : ¬ x.slot < 512), Bool.and_false]
    rw [this]
    simp
  · rw [if_neg hb]
    have h1 : decide (0 ≤ x.slot) = true := by simp; omega
    have h2 : decide (x.slot < 512) = true := by simp; omega
    rw [h1, h2, b5]
    by_cases k1 : x.kind = 1
    · rw [if_pos k1, if_pos k1]; rfl
    rw [if_neg k1, if_neg k1]
    by_cases k2 : x.kind = 2
    · rw [if_pos k2, if_pos k2]
    rw [if_neg k2, if_neg k2]
    by_cases k3 : x.kind = 3
    · rw [if_pos k3, if_pos k3]
    rw [if_neg k3, if_neg k3]
    by_cases k4 : x.kind = 4
    · rw [if_pos k4, if_pos k4]
      simp only [Bool.and_assoc]
    rw [if_neg k4, if_neg k4]
    by_cases k5 : x.kind = 5
    · rw [if_pos k5, if_pos k5]
      refine (congrArg (fun z => decide (0 ≤ x.podSlot) && decide (x.podSlot < 2048) && (S.guests x.podSlot).isSome && z) b6).trans ?_
      unfold guestAtB
      simp only [hg]
      cases e : rPodAt d x.podSlot with
      | none => simp
      | some y =>
        have h3 := T.podAt e
        have h4 := T.pod_of h3.1
        rw [h3.2.1] at h4
        have i1 : decide (0 ≤ x.podSlot) = true := by simpa using h4.2.1
        have i2 : decide (x.podSlot < 2048) = true := by simpa using h4.2.2.1
        rw [i1, i2]
        simp only [Option.map_some, Option.isSome_some, Bool.and_self, Bool.true_and, Bool.and_true]
        by_cases e2 : y.on = x.slot
        · rw [← e2, h4.2.2.2.2]; simp
        · have : (y.on == x.slot) = false := by simpa using e2
          rw [this, Bool.and_false]
          simpa using e2
    rw [if_neg k5, if_neg k5]
theorem delNode_fields (S : St) (s : Int) : (delNode S s).guests = S.guests ∧ (delNode S s).nodes = upd S.nodes s none := by
  obtain ⟨h1, h2, _⟩ := quitS_fields S s (nodeL S s)
  exact ⟨h1, h2⟩
theorem setNode_fields (S : St) (s : Int) (l : List Lab) : (setNode S s l).guests = S.guests ∧ (setNode S s l).nodes = upd S.nodes s (some l) := by
  obtain ⟨h1, h2, _⟩ := quitS_fields S s (nodeL S s)
  obtain ⟨h3, h4, _⟩ := joinS_fields (quitS S s (nodeL S s)) s l
  exact ⟨h3.trans h1, by unfold setNode; rw [h4, h2, upd_upd]⟩
theorem addNode_fields (S : St) (s : Int) (l : List Lab) : (addNode S s l).guests = S.guests ∧ (addNode S s l).nodes = upd S.nodes s (some l) := by
  obtain ⟨h3, h4, _⟩ := joinS_fields { S with on := upd S.on s (some (List.replicate 32 0)) } s l
  exact ⟨h3, h4⟩
theorem addPod_fields (S : St) (s p : Int) (l : List Lab) : (addPod S s p l).guests = upd S.guests p (some (l, s)) ∧ (addPod S s p l).nodes = S.nodes := by
  obtain ⟨h1, h2, _⟩ := enterNode_fields p 1 (nodeL S s) { S with guests := upd S.guests p (some (l, s)), on := onAdd S s p }
  exact ⟨h1, h2⟩
theorem delPod_fields (S : St) (s p : Int) : (delPod S s p).guests = upd S.guests p none ∧ (delPod S s p).nodes = S.nodes := by
  obtain ⟨h1, h2, _⟩ := enterNode_fields p (-1) (nodeL S s) S
  refine ⟨?_, h2⟩
  unfold delPod
  simp only [h1]
/-- T1: Apply. -/
theorem Tells.apply (T : Tells d S) (x : Chg) : Tells (applyR d x).1 (applyS S x) ∧ (applyR d x).2 = if fitsS S x = false then 90 else 0 := by
  unfold applyR applyS
  rw [T.fits]
  by_cases hf : fitsS S x = false
  · rw [if_pos hf, if_pos hf, if_pos hf]; exact ⟨T, rfl⟩
  rw [if_neg hf, if_neg hf, if_neg hf]
  have hf2 : fitsS S x = true := by simpa using hf
  unfold fitsS at hf2
  by_cases k1 : x.kind = 1
  · rw [if_pos (.inl k1), if_pos k1]
    rw [if_pos k1] at hf2
    simp only [Bool.and_eq_true, decide_eq_true_eq, Bool.not_eq_true', Option.isSome_eq_false_iff, Option.isNone_iff_eq_none, beq_iff_eq] at hf2
    obtain ⟨⟨⟨f1, f2⟩, f3⟩, f4⟩ := hf2
    obtain ⟨g1, g2⟩ := addNode_fields S x.slot x.now.labels
    refine ⟨⟨T.inv.addNode ⟨f1, f2⟩ f3 (chk_nodup f4).1, ?_, T.ps, fun s => ?_, fun p => ?_⟩, rfl⟩
    · exact withG_rise (f := RNode.slot) T.ns _ (by simp) (by simp)
    · rw [g2]
      show _ = ((withG RNode.slot d.nodes x.slot _).find? _).map _
      rw [withG_put T.ns x.slot _ rfl]
      unfold upd
      split
      · rfl
      · exact T.nodes s
    · rw [g1]; exact T.pods p
  by_cases k2 : x.kind = 2
  · rw [if_neg (by omega), if_pos k2, if_neg k1, if_pos k2]
    rw [if_neg k1, if_pos k2] at hf2
    simp only [Bool.and_eq_true] at hf2
    obtain ⟨f1, f2⟩ := hf2
    obtain ⟨g1, g2⟩ := delNode_fields S x.slot
    refine ⟨⟨T.inv.delNode f1 (fun p hp e => ?_), ?_, T.ps, fun s => ?_, fun p => ?_⟩, rfl⟩
    · have := (T.inv.onL_mem x.slot p).2 ⟨hp, e⟩
      have h0 : (onL S x.slot).length = 0 := by simpa using f2
      rw [List.length_eq_zero_iff] at h0
      rw [h0] at this
      cases this
    · exact withG_rise (f := RNode.slot) T.ns _ (by simp) (by simp)
    · rw [g2]
      show _ = ((withG RNode.slot d.nodes x.slot _).find? _).map _
      rw [withG_del T.ns x.slot]
      unfold upd
      split
      · rfl
      · exact T.nodes s
    · rw [g1]; exact T.pods p
  by_cases k3 : x.kind = 3
  · rw [if_pos (.inr k3), if_neg k1, if_neg k2, if_pos k3]
    rw [if_neg k1, if_neg k2, if_pos k3] at hf2
    simp only [Bool.and_eq_true, beq_iff_eq] at hf2
    obtain ⟨f1, f2⟩ := hf2
    obtain ⟨g1, g2⟩ := setNode_fields S x.slot x.now.labels
    refine ⟨⟨T.inv.setNode f1 (chk_nodup f2).1, ?_, T.ps, fun s => ?_, fun p => ?_⟩, rfl⟩
    · exact withG_rise (f := RNode.slot) T.ns _ (by simp) (by simp)
    · rw [g2]
      show _ = ((withG RNode.slot d.nodes x.slot _).find? _).map _
      rw [withG_put T.ns x.slot _ rfl]
      unfold upd
      split
      · rfl
      · exact T.nodes s
    · rw [g1]; exact T.pods p
  by_cases k4 : x.kind = 4
  · rw [if_neg (by omega), if_neg k2, if_pos k4, if_neg k1, if_neg k2, if_neg k3, if_pos k4]
    rw [if_neg k1, if_neg k2, if_neg k3, if_pos k4] at hf2
    simp only [Bool.and_eq_true, decide_eq_true_eq, Bool.not_eq_true', Option.isSome_eq_false_iff, Option.isNone_iff_eq_none, beq_iff_eq] at hf2
    obtain ⟨⟨⟨⟨f1, f2⟩, f3⟩, f4⟩, f5⟩ := hf2
    obtain ⟨g1, g2⟩ := addPod_fields S x.slot x.podSlot x.pod.labels
    refine ⟨⟨T.inv.addPod f1 ⟨f2, f3⟩ f4 (chk_nodup f5).1, T.ns, ?_, fun s => ?_, fun p => ?_⟩, rfl⟩
    · exact withG_rise (f := RPod.slot) T.ps _ (by simp) (by simp)
    · rw [g2]; exact T.nodes s
    · rw [g1]
      show _ = ((withG RPod.slot d.pods x.podSlot _).find? _).map _
      rw [withG_put T.ps x.podSlot _ rfl]
      unfold upd
      split
      · rfl
      · exact T.pods p
  rw [if_neg (by omega), if_neg k2, if_neg k4, if_neg k1, if_neg k2, if_neg k3, if_neg k4]
  rw [if_neg k1, if_neg k2, if_neg k3, if_neg k4] at hf2
  split at hf2
  · simp only [Bool.and_eq_true] at hf2
    obtain ⟨⟨f1, f2⟩, f3⟩ := hf2
    obtain ⟨g1, g2⟩ := delPod_fields S x.slot x.podSlot
    refine ⟨⟨T.inv.delPod ?_, T.ns, ?_, fun s => ?_, fun p => ?_⟩, rfl⟩
    · unfold guestAtB at f3
      unfold podNode
      cases e : S.guests x.podSlot with
      | none => rw [e] at f3; cases f3
      | some q =>
        rw [e] at f3
        obtain ⟨q1, q2⟩ := q
        simpa using f3
    · exact withG_rise (f := RPod.slot) T.ps _ (by simp) (by simp)
    · rw [g2]; exact T.nodes s
    · rw [g1]
      show _ = ((withG RPod.slot d.pods x.podSlot _).find? _).map _
      rw [withG_del T.ps x.podSlot]
      unfold upd
      split
      · rfl
      · exact T.pods p
  · cases hf2
theorem Tells.empty : Tells ⟨[], []⟩ St.empty := ⟨Inv.empty, List.Pairwise.nil, List.Pairwise.nil, fun _ => rfl, fun _ => rfl⟩
theorem Fit.empty : Fit ⟨[], []⟩ := ⟨fun _ h => (by cases h), fun _ h => (by cases h)⟩
theorem Fit.apply (T : Tells d S) (F : Fit d) {x : Chg} (hs : ChgFit x) : Fit (applyR d x).1 := by
  unfold applyR
  rw [T.fits]
  by_cases hf : fitsS S x = false
  · rw [if_pos hf]; exact F
  rw [if_neg hf]
  have hf2 : fitsS S x = true := by simpa using hf
  unfold fitsS at hf2
  have hnode : ∀ n, (∀ y ∈ n, y.labels.length ≤ 32 ∧ ∀ l ∈ y.labels, l.key.size ≤ 1048576 ∧ l.val.size ≤ 1048576) → Fit ⟨withNode d.nodes x.slot n, d.pods⟩ := fun n hn => ⟨fun y hy => by
    rcases (withG_mem (f := RNode.slot) T.ns x.slot n y).1 hy with h | h
    · exact F.nl y h.1
    · exact hn y h, F.pl⟩
  have hpod : ∀ n, (∀ y ∈ n, y.labels.length ≤ 32) → Fit ⟨d.nodes, withPod d.pods x.podSlot n⟩ := fun n hn => ⟨F.nl, fun y hy => by
    rcases (withG_mem (f := RPod.slot) T.ps x.podSlot n y).1 hy with h | h
    · exact F.pl y h.1
    · exact hn y h⟩
  by_cases k13 : x.kind = 1 ∨ x.kind = 3
  · rw [if_pos k13]
    refine hnode _ fun y hy => ?_
    rw [List.mem_singleton] at hy
    subst hy
    refine ⟨?_, fun l hl => hs.1.2 l hl⟩
    rcases k13 with k | k
    · rw [if_pos k] at hf2
      simp only [Bool.and_eq_true, beq_iff_eq] at hf2
      exact (chk_nodup hf2.2).2
    · rw [if_neg (by omega), if_neg (by omega), if_pos k] at hf2
      simp only [Bool.and_eq_true, beq_iff_eq] at hf2
      exact (chk_nodup hf2.2).2
  rw [if_neg k13]
  split
  · exact hnode _ (by simp)
  split
  · next k4 =>
    refine hpod _ fun y hy => ?_
    rw [List.mem_singleton] at hy
    subst hy
    rw [if_neg (by omega), if_neg (by omega), if_neg (by omega), if_pos k4] at hf2
    simp only [Bool.and_eq_true, beq_iff_eq] at hf2
    exact (chk_nodup hf2.2).2
  · exact hpod _ (by simp)
end
end Go.Proofs.YtmenipaibjifiaaGreatDoor

namespace Go.Proofs.YtmenipaibjifiaaGreatDoor
open Go.RowKit Go.BigFrame Go.Shelf

def zoneL : Lab := ⟨⟨#[122, 111, 110, 101]⟩, ⟨#[120]⟩⟩
def appL : Lab := ⟨⟨#[97, 112, 112]⟩, ⟨#[119, 101, 98]⟩⟩
def wd1 : RDom := ⟨[⟨3, [zoneL]⟩], []⟩
def wd2 : RDom := ⟨[⟨3, [zoneL]⟩], [⟨5, 3, [appL]⟩]⟩
def nod0 : Nod := ⟨⟨#[]⟩, [], [], [], false⟩
def pd0 : Pd := ⟨⟨#[]⟩, [], [], [], ⟨#[]⟩, [], [], 0⟩
def chg1 : Chg := ⟨1, 3, -1, nod0, { nod0 with name := ⟨#[97]⟩, labels := [zoneL] }, pd0⟩
def chg2 : Chg := ⟨4, 3, 5, nod0, nod0, { pd0 with name := ⟨#[112]⟩, labels := [appL] }⟩
def chg3 : Chg := ⟨2, 3, 0, nod0, nod0, pd0⟩
theorem ap1 : applyR ⟨[], []⟩ chg1 = (wd1, 0) := by kernel_rfl
theorem ap2 : applyR wd1 chg2 = (wd2, 0) := by kernel_rfl
theorem fit1 : fitsR ⟨[], []⟩ chg1 = true := by kernel_rfl
theorem fit2 : fitsR wd1 chg2 = true := by kernel_rfl
theorem fit3 : fitsR wd2 chg3 = false := by kernel_rfl
theorem wof : rOf wd2 ⟨#[122, 111, 110, 101]⟩ 3 = some ⟨#[120]⟩ := by kernel_rfl
theorem wcount : rCountN wd2 ⟨#[122, 111, 110, 101]⟩ ⟨#[120]⟩ ⟨#[97, 112, 112]⟩ ⟨#[119, 101, 98]⟩ = 1 := by kernel_rfl
theorem wnear : rRankedL wd2 ⟨#[122, 111, 110, 101]⟩ [5] 5 0 = [3] := by kernel_rfl
theorem small0 : LabsSmall [] := ⟨by simp, fun _ h => by cases h⟩
theorem small1 : LabsSmall [zoneL] := ⟨by simp, fun l h => by obtain rfl := List.mem_singleton.1 h; exact ⟨by decide, by decide⟩⟩
theorem small2 : LabsSmall [appL] := ⟨by simp, fun l h => by obtain rfl := List.mem_singleton.1 h; exact ⟨by decide, by decide⟩⟩
theorem Pre.of {w : World} {h : Hdr} {own : Own'} {S : St} {d : RDom} (D : DomAt w h own S) (T : Tells d S) (F : Fit d) : Pre w h own S := ⟨D, T.inv, fun p => by
  rw [T.guestL_eq]
  cases e : rPodAt d p with
  | none => simp
  | some x => exact F.pl x (T.podAt e).1⟩
theorem applyS_1 {S : St} {x : Chg} (hf : fitsS S x = true) (hk : x.kind = 1) : applyS S x = addNode S x.slot x.now.labels := by
  unfold applyS
  rw [if_neg (by rw [hf]; simp), if_pos hk]
theorem applyS_4 {S : St} {x : Chg} (hf : fitsS S x = true) (hk : x.kind = 4) : applyS S x = addPod S x.slot x.podSlot x.pod.labels := by
  unfold applyS
  rw [if_neg (by rw [hf]; simp), if_neg (by omega), if_neg (by omega), if_neg (by omega), if_pos hk]
theorem run_eql_table (w : World) (B : Nat) (f : FuncId) : (binOp .eql 114 (.func (.func f) #[] #[.pointer (some ⟨B, 0, none⟩)]) .nilFunc).run Tryz.prog w = .ok (.bool false) w := run_eql_func_nil w _ _ _ Tryz.underlying114
theorem nod0_k (w : World) (ok : Nat → Prop) : nodK w ok nod0 [.string ⟨#[]⟩, .slice none 0 0, .slice none 0 0, .slice none 0 0, .bool false] := ⟨_, _, _, rfl, SlK.nil, SlK.nil, SlK.nil⟩
theorem pd0_k (w : World) (ok : Nat → Prop) : pdK w ok pd0 [.string ⟨#[]⟩, .slice none 0 0, .slice none 0 0, .slice none 0 0, .string ⟨#[]⟩, .slice none 0 0, .slice none 0 0, .int .i64 0] := ⟨_, _, _, _, _, rfl, SlK.nil, SlK.nil, SlK.nil, SlK.nil, SlK.nil⟩
set_option maxRecDepth 100000 in
set_option maxHeartbeats 40000000 in
theorem wakes_k (R : Ending → World → Prop) (w : World) (hG : GOk w) (hR : ∀ w', Below w.heap.size w w' → R (.returned (.bool true)) w') : Calls Tryz.prog 9 #[] w R := by
  have HR := Lib.hid hR
  clear hR
  go_enter Tryz.func9, Tryz.ntmps9
  go_wp2_with fail
  refine dnew_k _ _ ?_
  intro h own w1 g1 D1 hown hd
  have HG1 := Lib.hid g1
  have HD1 := Lib.hid D1
  have HO1 := Lib.hid hown
  clear g1 D1 hown
  go_wp2_with fail
  have hl1 : ∀ k, w1.heap.size ≤ k → own k = none := HD1.out.lim
  have hBa : Below w.heap.size w (w1.alloc (.cells #[.string ⟨#[122, 111, 110, 101]⟩, .string ⟨#[120]⟩] 108)) := HG1.out.alloc HG1.out.size _
  have hoa := heap_alloc_new w1 (.cells #[.string ⟨#[122, 111, 110, 101]⟩, .string ⟨#[120]⟩] 108)
  have hDa := HD1.out.alloc (.cells #[.string ⟨#[122, 111, 110, 101]⟩, .string ⟨#[120]⟩] 108)
  refine dapplyAdd_k _ _ h own St.empty (fun k => k = w1.heap.size) chg1 _ (Pre.of hDa Tells.empty Fit.empty) (fun k hk => by subst hk; exact ⟨by simp, fun e => e.1 (hl1 _ (Nat.le_refl _))⟩)
    ⟨_, _, _, rfl, nod0_k _ _, ⟨_, _, _, rfl, SlK.single labOk (x := zoneL) rfl rfl hoa, SlK.nil, SlK.nil⟩, pd0_k _ _⟩ ⟨small1, small0⟩ (GOk.below hG ⟨hBa.os, hBa.tape, hBa.output, hBa.size, hBa.block⟩) rfl (by rw [← Tells.empty.fits]; exact fit1) ?_
  intro own2 w2 D2 E2 M2
  have T1 : Tells wd1 (addNode St.empty chg1.slot chg1.now.labels) := by
    have := (Tells.empty.apply chg1).1
    rwa [ap1, applyS_1 (by rw [← Tells.empty.fits]; exact fit1) rfl] at this
  have F1 : Fit wd1 := by
    have := Fit.apply Tells.empty Fit.empty (x := chg1) ⟨small1, small0⟩
    rwa [ap1] at this
  have hmut : ∀ k, Mut own k → w.heap.size ≤ k := fun k hk => by
    rcases Nat.lt_or_ge k w.heap.size with h1 | h1
    · exact absurd (HO1.out k h1) hk.1
    · exact h1
  have hB2 : Below w.heap.size w w2 := hBa.trans (M2.below (by have := HG1.out.size; simp; omega) hmut)
  have hO2 : ∀ k, k < w.heap.size → own2 k = none := fun k hk => (E2 k (by have := HG1.out.size; simp; omega)).trans (HO1.out k hk)
  have HB2 := Lib.hid hB2
  have HO2 := Lib.hid hO2
  have HD2 := Lib.hid D2
  have HT1 := Lib.hid T1
  have HF1 := Lib.hid F1
  obtain ⟨S1, hS1⟩ : ∃ S1, addNode St.empty chg1.slot chg1.now.labels = S1 := ⟨_, rfl⟩
  rw [hS1] at HD2 HT1
  clear hBa hoa hDa D2 E2 M2 T1 F1 hmut hB2 hO2 hl1 hS1 HD1 HO1 HG1
  go_wp2_with fail
  have hl2 : ∀ k, w2.heap.size ≤ k → own2 k = none := HD2.out.lim
  have hBa : Below w.heap.size w (w2.alloc (.cells #[.string ⟨#[97, 112, 112]⟩, .string ⟨#[119, 101, 98]⟩] 108)) := HB2.out.alloc HB2.out.size _
  have hoa := heap_alloc_new w2 (.cells #[.string ⟨#[97, 112, 112]⟩, .string ⟨#[119, 101, 98]⟩] 108)
  have hDa := HD2.out.alloc (.cells #[.string ⟨#[97, 112, 112]⟩, .string ⟨#[119, 101, 98]⟩] 108)
  refine dapplyPod_k _ _ h own2 S1 (fun k => k = w2.heap.size) chg2 _ (Pre.of hDa HT1.out HF1.out) (fun k hk => by subst hk; exact ⟨by simp, fun e => e.1 (hl2 _ (Nat.le_refl _))⟩)
    ⟨_, _, _, rfl, nod0_k _ _, nod0_k _ _, ⟨_, _, _, _, _, rfl, SlK.single labOk (x := appL) rfl rfl hoa, SlK.nil, SlK.nil, SlK.nil, SlK.nil⟩⟩ ⟨small0, small2⟩ (GOk.below hG ⟨hBa.os, hBa.tape, hBa.output, hBa.size, hBa.block⟩) rfl (by rw [← HT1.out.fits]; exact fit2) (fun s ls hs => by
      rw [HT1.out.nodes] at hs
      obtain ⟨x, hx, rfl⟩ := Option.map_eq_some_iff.1 hs
      have := (HF1.out.nl x (HT1.out.nodeAt hx).1).1
      omega) ?_
  intro own3 w3 D3 E3 M3
  have T2 : Tells wd2 (addPod S1 chg2.slot chg2.podSlot chg2.pod.labels) := by
    have := (HT1.out.apply chg2).1
    rwa [ap2, applyS_4 (by rw [← HT1.out.fits]; exact fit2) rfl] at this
  have F2 : Fit wd2 := by
    have := Fit.apply HT1.out HF1.out (x := chg2) ⟨small0, small2⟩
    rwa [ap2] at this
  have hmut : ∀ k, Mut own2 k → w.heap.size ≤ k := fun k hk => by
    rcases Nat.lt_or_ge k w.heap.size with h1 | h1
    · exact absurd (HO2.out k h1) hk.1
    · exact h1
  have hB3 : Below w.heap.size w w3 := hBa.trans (M3.below (by have := HB2.out.size; simp; omega) hmut)
  have HB3 := Lib.hid hB3
  have HD3 := Lib.hid D3
  have HT2 := Lib.hid T2
  have HF2 := Lib.hid F2
  obtain ⟨S2, hS2⟩ : ∃ S2, addPod S1 chg2.slot chg2.podSlot chg2.pod.labels = S2 := ⟨_, rfl⟩
  rw [hS2] at HD3 HT2
  clear hBa hoa hDa D3 E3 M3 T2 F2 hmut hB3 hl2 hS2 HD2 HT1 HF1 HB2 HO2
  go_wp2_with fail
  refine dapplyNo_k _ _ h own3 S2 (fun _ => False) chg3 _ (Pre.of HD3.out HT2.out HF2.out) (fun k hk => hk.elim) ⟨_, _, _, rfl, nod0_k _ _, nod0_k _ _, pd0_k _ _⟩ ⟨small0, small0⟩ (GOk.below hG ⟨HB3.out.os, HB3.out.tape, HB3.out.output, HB3.out.size, HB3.out.block⟩) (by rw [← HT2.out.fits]; exact fit3) ?_
  intro w4 g4
  have hQ := (Asked.dom HD3.out HT2.out HF2.out).below g4
  have HQ := Lib.hid hQ
  have HB4 := Lib.hid (HB3.out.trans (g4.mono HB3.out.size))
  clear hQ g4 HD3 HT2 HF2 HB3
  go_wp2_with fail
  refine HQ.out.of _ _ _ _ (Below.refl _ _) ?_
  intro w5 g5
  rw [wof]
  unfold getV
  have HB5 := Lib.hid (HB4.out.trans (g5.mono HB4.out.size))
  have HQ5 := Lib.hid (HQ.out.below g5)
  clear g5 HQ HB4
  go_wp2_with fail
  refine clusterNew_k _ _ ?_
  intro cc w6 g6 hc6
  have HB6 := Lib.hid (HB5.out.trans (g6.mono HB5.out.size))
  have HQ6 := Lib.hid (HQ5.out.below g6)
  have HC6 := Lib.hid hc6
  clear g6 hc6 HQ5 HB5
  go_wp2_with fail
  refine HQ6.out.values _ _ _ (Below.refl _ _) ?_
  intro B1 B2 vs ns w7 g7 _ _ _ _
  have HB7 := Lib.hid (HB6.out.trans (g7.mono HB6.out.size))
  have HQ7 := Lib.hid (HQ6.out.below g7)
  have HC7 := Lib.hid (HC6.out.below g7)
  have z7 := rows_not_nil w7 B1 B2
  clear g7 HQ6 HB6 HC6
  go_wp2_with fail
  refine HQ7.out.tally _ _ _ (fun _ => False) (.pointer none) [] (Below.refl _ _) (.inl ⟨rfl, rfl, rfl⟩) (fun _ h => h.elim) ?_
  intro B3 B4 vs2 ns2 w8 g8 _ _ _ _
  have HB8 := Lib.hid (HB7.out.trans (g8.mono HB7.out.size))
  have HQ8 := Lib.hid (HQ7.out.below g8)
  have HC8 := Lib.hid (HC7.out.below g8)
  have z8 := rows_not_nil w8 B3 B4
  clear g8 HQ7 HB7 HC7 z7
  go_wp2_with fail
  refine slotsNew_k _ _ cc HC8.out ?_
  intro B5 w9 g9
  have HB9 := Lib.hid (HB8.out.trans (g9.mono HB8.out.size))
  have HQ9 := Lib.hid (HQ8.out.below g9)
  have HC9 := Lib.hid (HC8.out.below g9)
  have z9 := run_eql_table w9 B5 208
  clear g9 HQ8 HB8 HC8 z8
  go_wp2_with fail
  refine podSlotsNew_k _ _ cc HC9.out ?_
  intro B6 w10 g10
  have HB10 := Lib.hid (HB9.out.trans (g10.mono HB9.out.size))
  have HQ10 := Lib.hid (HQ9.out.below g10)
  have z10 := run_eql_table w10 B6 210
  clear g10 HQ9 HB9 HC9 z9
  go_wp2_with fail
  refine HQ10.out.count _ _ _ _ _ _ (Below.refl _ _) ?_
  intro w11 g11
  rw [wcount]
  have HB11 := Lib.hid (HB10.out.trans (g11.mono HB10.out.size))
  have HQ11 := Lib.hid (HQ10.out.below g11)
  clear g11 HQ10 HB10 z10
  go_wp2_with fail
  have hb5 : Below w11.heap.size w11 (w11.alloc (.cells #[.int .i64 5] 3)) := Below.alloc (Below.refl _ _) (Nat.le_refl _) _
  have ho5 := heap_alloc_new w11 (.cells #[.int .i64 5] 3)
  refine marks_k _ _ (fun k => k = w11.heap.size) _ [5] (fun k hk => by subst hk; simp) (SlK.single intOk (x := (5 : Int)) rfl rfl ho5) (by simp) ?_
  intro vm w12 g12 hm12
  have hb12 := hb5.trans (g12.mono hb5.size)
  have HB12 := Lib.hid (HB11.out.trans (hb12.mono HB11.out.size))
  have HQ12 := Lib.hid (HQ11.out.below hb12)
  have HM12 := Lib.hid hm12
  clear g12 hm12 hb12 hb5 ho5 HQ11 HB11
  go_wp2_with fail
  refine HQ12.out.near _ _ _ _ vm [5] (Below.refl _ _) HM12.out (fun k hk => hk.2) ?_
  intro s b ws w13 g13 _ _ hS hm
  rw [wnear] at hm
  have HB13 := Lib.hid (HB12.out.trans (g13.mono HB12.out.size))
  have HS := Lib.hid hS
  have HM := Lib.hid hm
  clear g13 hS hm HQ12 HB12 HM12
  go_wp2_with fail
  have hb14 : Below w13.heap.size w13 (w13.alloc (.cells #[.int .i64 3] 3)) := Below.alloc (Below.refl _ _) (Nat.le_refl _) _
  have ho3 := heap_alloc_new w13 (.cells #[.int .i64 3] 3)
  refine membersL_k _ _ (fun k => k < (w13.alloc (.cells #[.int .i64 3] 3)).heap.size) (fun k => k = w13.heap.size) _ _ 512 ws [3] 512 (fun k h => h) (fun k hk => by subst hk; simp) (setIn_p HS.out hb14) (by decide) (SlK.single intOk (x := (3 : Int)) rfl rfl ho3) (by simp) ?_
  intro w14 g14
  rw [show (decide (((512 : Nat) : Int) = 512) && decide (natI (mems 512 ws) = [3])) = true by rw [HM.out]; simp]
  have hb := HB13.out.trans ((hb14.trans (g14.mono hb14.size)).mono HB13.out.size)
  have hv := HR.out w14 hb
  clear hb14 ho3 g14 hb
  go_wp2_with fail
  exact hv
end Go.Proofs.YtmenipaibjifiaaGreatDoor

namespace Go.Proofs.YtmenipaibjifiaaGreatDoor
open Go.RowKit

theorem Tells.hnode {d : RDom} {S : St} (T : Tells d S) (F : Fit d) : ∀ s ls, S.nodes s = some ls → ls.length ≤ 1048576 := fun s ls hs => by
  rw [T.nodes] at hs
  obtain ⟨x, hx, rfl⟩ := Option.map_eq_some_iff.1 hs
  have := (F.nl x (T.nodeAt hx).1).1
  omega
theorem dapply_k (R : Ending → World → Prop) (w : World) (h : Hdr) (own : Own') (S : St) (d : RDom) (ok : Nat → Prop) (x : Chg) (cs : List Value) (D : DomAt w h own S) (T : Tells d S) (F : Fit d) (hok : ∀ k, ok k → k < w.heap.size ∧ ¬ Mut own k) (hx : chgK w ok x cs) (hs : ChgFit x) (hG : GOk w)
    (hR : ∀ own' w', DomAt w' h own' (applyS S x) → Ext w own own' → Mod (Mut own) w w' → R (.returned (.int .i64 (if fitsS S x = false then 90 else 0))) w') :
    Calls Tryz.prog 12 #[.pointer (some ⟨h.d, 0, none⟩), .agg cs.toArray] w R := by
  have P := Pre.of D T F
  have hn := T.hnode F
  by_cases hf : fitsS S x = false
  · refine dapplyNo_k R w h own S ok x cs P hok hx hs hG hf (fun w' g => ?_)
    have hv := hR own w' (by unfold applyS; rw [if_pos hf]; exact D.below g) (fun _ _ => rfl) ((Mod.of_below g).non_to)
    rw [if_pos hf] at hv
    exact hv
  have hf2 : fitsS S x = true := by simpa using hf
  rw [if_neg hf] at hR
  by_cases k1 : x.kind = 1
  · exact dapplyAdd_k R w h own S ok x cs P hok hx hs hG k1 hf2 (fun own' w' D' E M => hR own' w' (by rw [applyS_1 hf2 k1]; exact D') E M)
  by_cases k2 : x.kind = 2
  · exact dapplyDel_k R w h own S ok x cs P hok hx hs hG k2 hf2 hn (fun w' D' M => hR own w' (by unfold applyS; rw [if_neg hf, if_neg k1, if_pos k2]; exact D') (fun _ _ => rfl) M)
  by_cases k3 : x.kind = 3
  · exact dapplySet_k R w h own S ok x cs P hok hx hs hG k3 hf2 hn (fun own' w' D' E M => hR own' w' (by unfold applyS; rw [if_neg hf, if_neg k1, if_neg k2, if_pos k3]; exact D') E M)
  by_cases k4 : x.kind = 4
  · exact dapplyPod_k R w h own S ok x cs P hok hx hs hG k4 hf2 hn (fun own' w' D' E M => hR own' w' (by rw [applyS_4 hf2 k4]; exact D') E M)
  by_cases k5 : x.kind = 5
  · exact dapplyGone_k R w h own S ok x cs P hok hx hs hG k5 hf2 hn (fun w' D' M => hR own w' (by unfold applyS; rw [if_neg hf, if_neg k1, if_neg k2, if_neg k3, if_neg k4]; exact D') (fun _ _ => rfl) M)
  exfalso
  unfold fitsS at hf2
  rw [if_neg k1, if_neg k2, if_neg k3, if_neg k4, if_neg k5] at hf2
  cases hf2
end Go.Proofs.YtmenipaibjifiaaGreatDoor

namespace Go.Proofs.YtmenipaibjifiaaGreatDoor
open Go.RowKit Go.BigFrame

structure RefM (w : World) (ha hb : Hdr) (S T : St) (owna ownb : Own') (L : List (Nat × Obj)) (wr : World) : Prop where
  DA : DomAt wr ha owna S
  DB : DomAt wr hb ownb T
  dis : ∀ j, owna j ≠ none → ownb j = none
  below : Below w.heap.size w wr
  own : ∀ j, j < w.heap.size → owna j = none ∧ ownb j = none
  keep : ∀ p ∈ L, wr.heap[p.1]? = some p.2 ∧ owna p.1 = none ∧ ownb p.1 = none ∧ w.heap.size ≤ p.1
section
variable {w : World} {ha hb : Hdr} {S T S' : St} {owna ownb own2 : Own'} {L : List (Nat × Obj)} {wr w' : World}
theorem RefM.swap (M : RefM w ha hb S T owna ownb L wr) : RefM w hb ha T S ownb owna L wr where
  DA := M.DB
  DB := M.DA
  dis := fun j hj => by
    cases h : owna j with
    | none => rfl
    | some t => exact absurd (M.dis j (by rw [h]; simp)) hj
  below := M.below
  own := fun j hj => ⟨(M.own j hj).2, (M.own j hj).1⟩
  keep := fun p hp => ⟨(M.keep p hp).1, (M.keep p hp).2.2.1, (M.keep p hp).2.1, (M.keep p hp).2.2.2⟩
theorem RefM.mono (M : RefM w ha hb S T owna ownb L wr) (g : Below wr.heap.size wr w') : RefM w ha hb S T owna ownb L w' where
  DA := M.DA.below g
  DB := M.DB.below g
  dis := M.dis
  below := M.below.trans (g.mono M.below.size)
  own := M.own
  keep := fun p hp => ⟨(g.block p.1 (Array.getElem?_eq_some_iff.1 (M.keep p hp).1).1).trans (M.keep p hp).1, (M.keep p hp).2⟩
theorem RefM.apply (M : RefM w ha hb S T owna ownb L wr) (D2 : DomAt w' ha own2 S') (E : Ext wr owna own2) (g : Mod (Mut owna) wr w') : RefM w ha hb S' T own2 ownb L w' where
  DA := D2
  DB := M.DB.mod g (fun j hj => M.dis j hj.1)
  dis := fun j hj => by
    rcases Nat.lt_or_ge j wr.heap.size with h | h
    · rw [E j h] at hj; exact M.dis j hj
    · exact M.DB.lim j h
  below := M.below.trans (g.below M.below.size (fun j hj => by
    rcases Nat.lt_or_ge j w.heap.size with h1 | h1
    · exact absurd (M.own j h1).1 hj.1
    · exact h1))
  own := fun j hj => ⟨(E j (Nat.lt_of_lt_of_le hj M.below.size)).trans (M.own j hj).1, (M.own j hj).2⟩
  keep := fun p hp => by
    obtain ⟨h1, h2, h3, h4⟩ := M.keep p hp
    exact ⟨g.keep h1 (fun h => h.1 h2), (E _ (Array.getElem?_eq_some_iff.1 h1).1).trans h2, h3, h4⟩
theorem RefM.marks {Ds : List Nat} (M : RefM w ha hb S T owna ownb L wr) (hD : ∀ D ∈ Ds, wr.heap[D]? = some (.deferred (some [])) ∧ owna D = none ∧ ownb D = none ∧ w.heap.size ≤ D) :
    RefM w ha hb S T owna ownb (L ++ Ds.map fun D => (D, .deferred (some []))) wr :=
  { M with
    keep := fun p hp => by
      rcases List.mem_append.1 hp with h | h
      · exact M.keep p h
      · obtain ⟨D, hd, rfl⟩ := List.mem_map.1 h
        exact hD D hd }
theorem RefM.unmark {Ds : List Nat} (M : RefM w ha hb S T owna ownb (L ++ Ds.map fun D => (D, .deferred (some []))) wr) :
    RefM w ha hb S T owna ownb L wr ∧ ∀ D ∈ Ds, wr.heap[D]? = some (.deferred (some [])) ∧ owna D = none ∧ ownb D = none ∧ w.heap.size ≤ D :=
  ⟨{ M with keep := fun p hp => M.keep p (List.mem_append_left _ hp) }, fun D hD => M.keep (D, .deferred (some [])) (List.mem_append_right _ (List.mem_map.2 ⟨D, hD, rfl⟩))⟩
end
end Go.Proofs.YtmenipaibjifiaaGreatDoor
