/-
domain: rows, an iterator over values with numbers.
slots.Table.All of an empty table; Slots, PodSlots of a new cluster; the iterators of a nil cluster.
-/
import Derived.Test.YtmenipaibjifiaaGreatDoorR21
import Derived.Test.YtmenipaibjifiaaGreatDoorR26
set_option linter.unusedVariables false
set_option linter.unusedSimpArgs false
namespace Go.Proofs.YtmenipaibjifiaaGreatDoor
open Go.RowKit Go.Shelf Go.BigFrame
attribute [local go_sem] Oper.semAt_some

set_option maxRecDepth 100000 in
set_option maxHeartbeats 2000000 in
/-- rows' closure. -/
theorem rows1_in (F : Fence) (n : Nat) (h7 : F.fn 156) (hro : F.round = none) (hn : 1 ≤ n) (l B1 B2 A B : Nat) (sv nv : Value) (vs : List ByteArray) (ns : List Int) (hlen : ns.length = vs.length) (hz : vs.length ≤ 1073741824) (hB1 : A ≤ B1 ∧ B1 < B) (hB2 : A ≤ B2 ∧ B2 < B) (J Jx : List (ByteArray × Int) → World → Prop)
    (hY : ∀ pre x W, J pre W → pre.length < (vs.zip ns).length → YieldAt F (n - 1) Tryz.prog l #[.string x.1, .int .i64 x.2] W fun e W' =>
      (e = .returned (.bool true) ∧ J (pre ++ [x]) W' ∧ KeepB A B W W') ∨ (e = .returned (.bool false) ∧ Jx (pre ++ [x]) W'))
    (W : World) (hc1 : W.cell? ⟨B1, 0, none⟩ = some sv) (hc2 : W.cell? ⟨B2, 0, none⟩ = some nv) (hI1 : SlK strsK 1 W (fun k => A ≤ k ∧ k < B) sv vs) (hI2 : SlK intsK 1 W (fun k => A ≤ k ∧ k < B) nv ns) (h0 : J [] W) :
    CallsIn F n Tryz.prog 156 #[.func (.yield l) #[] #[], .pointer (some ⟨B1, 0, none⟩), .pointer (some ⟨B2, 0, none⟩)] W fun e W' => (∃ v, e = .returned v) ∧
      ((∃ ys, ys = vs.zip ns ∧ J ys W') ∨ (∃ pre, pre <+: vs.zip ns ∧ Jx pre W')) := by
  obtain ⟨Ad, cp, rfl, hlc, _⟩ := hI1.form
  obtain ⟨An, cn, rfl, hln, _⟩ := hI2.form
  have hzl : (vs.zip ns).length = vs.length := by simp [hlen]
  refine callsIn_of_wp Tryz.func156 rfl h7 ?_ hro
  simp only [Tryz.ntmps156, List.size_toArray, List.length_cons, List.length_nil, Nat.reduceAdd, Nat.reduceSub, Array.replicate_succ, Array.replicate_zero, List.push_toArray, List.append_toArray, List.nil_append, List.cons_append]
  gi_wp2
  gi_loopw [8] (fun i wr => ∃ k : Nat, k ≤ vs.length ∧ i = .int .i64 k ∧ J ((vs.zip ns).take k) wr ∧ KeepB A B W wr)
    (fun i _ => vs.length - (intOf i).toNat)
  case atStart => exact ⟨0, Nat.zero_le _, rfl, h0, KeepB.refl _ _ _⟩
  case round =>
    obtain ⟨k, hk, rfl, hJs, hnx⟩ := hrel
    by_cases hlt : k < vs.length
    · obtain ⟨b, off, c', he, _, _, hbk, hbl, hce⟩ := hI1.addr (by omega)
      simp only [Value.slice.injEq] at he
      obtain ⟨rfl, -, rfl⟩ := he
      obtain ⟨cs, hcs, hcl, hcc⟩ := hce k hlt
      have hcx := hcc 0 (.string (vs[k]'hlt)) (by cases hcs; rfl)
      have hcx' := hnx.cell hcx hbk.1 hbk.2
      simp only [Nat.mul_one, Nat.add_zero] at hcx'
      have hltn : k < ns.length := by omega
      obtain ⟨b2, off2, c2', he2, _, _, hbk2, hbl2, hce2⟩ := hI2.addr (by omega)
      simp only [Value.slice.injEq] at he2
      obtain ⟨rfl, -, rfl⟩ := he2
      obtain ⟨cs2, hcs2, hcl2, hcc2⟩ := hce2 k hltn
      have hcy := hcc2 0 (.int .i64 (ns[k]'hltn)) (by cases hcs2; rfl)
      have hcy' := hnx.cell hcy hbk2.1 hbk2.2
      simp only [Nat.mul_one, Nat.add_zero] at hcy'
      have hb2' := hnx.cell hc2 hB2.1 hB2.2
      have hlt3 : k < (vs.zip ns).length := by omega
      obtain ⟨fn, tmps, assign, body, hy, hR⟩ := hY _ (vs[k]'hlt, ns[k]'hltn) wr hJs (by rw [List.length_take]; omega)
      have hsn : (vs.zip ns).take k ++ [(vs[k]'hlt, ns[k]'hltn)] = (vs.zip ns).take (k + 1) := by rw [List.take_succ_eq_append_getElem hlt3, List.getElem_zip]
      rw [hsn] at hR
      dsimp only at hy
      have HSN := Lib.hid hsn
      have Hlen := Lib.hid hlen
      have Hzl := Lib.hid hzl
      clear hsn hlen hzl hce hce2 hcc hcc2
      gi_wp2
      refine hR.mono ?_
      rintro e W3 (⟨rfl, hJ3, hk3⟩ | ⟨rfl, hJx3⟩)
      · gi_wp2
        go_roundw
        case rel => exact ⟨k + 1, by omega, by go_num, hJ3, hnx.trans hk3⟩
        case measure => simp [intOf]; omega
      · gi_wp2
        refine bodyPost_ret (results_none rfl _ _ _) rfl ?_
        exact ⟨⟨_, rfl⟩, .inr ⟨_, List.take_prefix _ _, hJx3⟩⟩
    · obtain rfl : k = vs.length := by omega
      rw [List.take_of_length_le (by omega)] at hJs
      have Hlen := Lib.hid hlen
      have Hzl := Lib.hid hzl
      clear hlen hzl
      gi_wp2
      go_end0
      exact ⟨⟨_, rfl⟩, .inl ⟨_, rfl, hJs⟩⟩
set_option maxRecDepth 100000 in
set_option maxHeartbeats 2000000 in
theorem rows_k (R : Ending → World → Prop) (w : World) (sv nv : Value) (h1 : ∃ A n c, sv = .slice A n c) (h2 : ∃ A n c, nv = .slice A n c)
    (hR : R (.returned (.func (.func 156) #[] #[.pointer (some ⟨w.heap.size, 0, none⟩), .pointer (some ⟨w.heap.size + 1, 0, none⟩)])) ((w.alloc (.cells #[sv] 61)).alloc (.cells #[nv] 43))) :
    Calls Tryz.prog 77 #[sv, nv] w R := by
  obtain ⟨A1, n1, c1, rfl⟩ := h1
  obtain ⟨A2, n2, c2, rfl⟩ := h2
  go_enter Tryz.func77, Tryz.ntmps77
  go_wp2_with fail
  exact hR
theorem rows_stops (F : Fence) (n : Nat) (h7 : F.fn 156) (hro : F.round = none) (hn : 1 ≤ n) (A B1 B2 : Nat) (sv nv : Value) (vs : List ByteArray) (ns : List Int) (hlen : ns.length = vs.length) (hz : vs.length ≤ 1073741824) (w : World) (hB1 : A ≤ B1 ∧ B1 < w.heap.size) (hB2 : A ≤ B2 ∧ B2 < w.heap.size)
    (hc1 : w.cell? ⟨B1, 0, none⟩ = some sv) (hc2 : w.cell? ⟨B2, 0, none⟩ = some nv) (hI1 : SlK strsK 1 w (fun k => A ≤ k ∧ k < w.heap.size) sv vs) (hI2 : SlK intsK 1 w (fun k => A ≤ k ∧ k < w.heap.size) nv ns) :
    SeqStopsK F n Tryz.prog 156 #[.pointer (some ⟨B1, 0, none⟩), .pointer (some ⟨B2, 0, none⟩)] (fun x : ByteArray × Int => #[Value.string x.1, Value.int .i64 x.2]) (KeepB A w.heap.size) (fun ys => ys = vs.zip ns) (fun pre => pre <+: vs.zip ns) (vs.zip ns).length w := fun l J Jx W hW _ _ hY h0 =>
  rows1_in F n h7 hro hn l B1 B2 A w.heap.size sv nv vs ns hlen hz hB1 hB2 J Jx hY W ((hW.cell (p := ⟨B1, 0, none⟩) hB1.2).trans hc1) ((hW.cell (p := ⟨B2, 0, none⟩) hB2.2).trans hc2) (hI1.below strOk hW (fun k hk => hk.2)) (hI2.below intOk hW (fun k hk => hk.2)) h0
end Go.Proofs.YtmenipaibjifiaaGreatDoor

namespace Go.Proofs.YtmenipaibjifiaaGreatDoor
open Go.RowKit Go.BigFrame

set_option maxRecDepth 100000 in
theorem cloneRowsA_k (R : Ending → World → Prop) (w : World) (hR : R (.returned (.slice none 0 0)) w) : Calls Tryz.prog 207 #[.slice none 0 0] w R := by
  have he : ∀ W : World, (binOp .eql 322 (.slice none 0 0) (.slice none 0 0)).run Tryz.prog W = .ok (.bool true) W := fun W => Lib.run_eql_slice_nil W _ _ none 0 0 0 0 Tryz.underlying322
  go_enter Tryz.func207, Tryz.ntmps207
  go_wp2_with fail
  exact hR
set_option maxRecDepth 100000 in
theorem cloneRowsB_k (R : Ending → World → Prop) (w : World) (hR : R (.returned (.slice none 0 0)) w) : Calls Tryz.prog 209 #[.slice none 0 0] w R := by
  have he : ∀ W : World, (binOp .eql 325 (.slice none 0 0) (.slice none 0 0)).run Tryz.prog W = .ok (.bool true) W := fun W => Lib.run_eql_slice_nil W _ _ none 0 0 0 0 Tryz.underlying325
  go_enter Tryz.func209, Tryz.ntmps209
  go_wp2_with fail
  exact hR
set_option maxRecDepth 100000 in
set_option maxHeartbeats 4000000 in
theorem allNewA_k (R : Ending → World → Prop) (w : World) (t m1 : Nat) (h : w.heap[t]? = some (.cells #[.int .i64 512, .map (some m1), .slice none 0 0, .int .i64 0] 324))
    (hR : ∀ B w', Below w.heap.size w w' → R (.returned (.func (.func 208) #[] #[.pointer (some ⟨B, 0, none⟩)])) w') :
    Calls Tryz.prog 132 #[.pointer (some ⟨t, 0, none⟩)] w R := by
  have HR := Lib.hid hR
  clear hR
  have x2 : w.cell? ⟨t, 2, none⟩ = some (.slice none 0 0) := cell_at h rfl
  have x2' := cell_old x2 (.cells #[.slice none 0 0] 322)
  clear h
  go_enter Tryz.func132, Tryz.ntmps132
  go_wp2_with fail
  refine cloneRowsA_k _ _ ?_
  go_wp2_with fail
  exact HR.out _ _ ((Below.refl w.heap.size w).alloc (Nat.le_refl _) _)
set_option maxRecDepth 100000 in
set_option maxHeartbeats 4000000 in
theorem allNewB_k (R : Ending → World → Prop) (w : World) (t m1 : Nat) (h : w.heap[t]? = some (.cells #[.int .i64 2048, .map (some m1), .slice none 0 0, .int .i64 0] 327))
    (hR : ∀ B w', Below w.heap.size w w' → R (.returned (.func (.func 210) #[] #[.pointer (some ⟨B, 0, none⟩)])) w') :
    Calls Tryz.prog 134 #[.pointer (some ⟨t, 0, none⟩)] w R := by
  have HR := Lib.hid hR
  clear hR
  have x2 : w.cell? ⟨t, 2, none⟩ = some (.slice none 0 0) := cell_at h rfl
  have x2' := cell_old x2 (.cells #[.slice none 0 0] 325)
  clear h
  go_enter Tryz.func134, Tryz.ntmps134
  go_wp2_with fail
  refine cloneRowsB_k _ _ ?_
  go_wp2_with fail
  exact HR.out _ _ ((Below.refl w.heap.size w).alloc (Nat.le_refl _) _)
set_option maxRecDepth 100000 in
theorem slotsNew_k (R : Ending → World → Prop) (w : World) (c : Nat) (h : CluNew w c)
    (hR : ∀ B w', Below w.heap.size w w' → R (.returned (.func (.func 208) #[] #[.pointer (some ⟨B, 0, none⟩)])) w') :
    Calls Tryz.prog 46 #[.pointer (some ⟨c, 0, none⟩)] w R := by
  have HR := Lib.hid hR
  clear hR
  obtain ⟨b1, b2, t1, t2, m1, m2, h1, h2, h3⟩ := h
  have x2 : w.cell? ⟨c, 2, none⟩ = some (.pointer (some ⟨t1, 0, none⟩)) := cell_at h1 rfl
  have HT := Lib.hid h2
  clear h1 h2 h3
  go_enter Tryz.func46, Tryz.ntmps46
  go_wp2_with fail
  refine allNewA_k _ _ t1 m1 HT.out ?_
  intro B w1 g1
  have hv := HR.out B w1 g1
  clear g1
  go_wp2_with fail
  exact hv
set_option maxRecDepth 100000 in
theorem podSlotsNew_k (R : Ending → World → Prop) (w : World) (c : Nat) (h : CluNew w c)
    (hR : ∀ B w', Below w.heap.size w w' → R (.returned (.func (.func 210) #[] #[.pointer (some ⟨B, 0, none⟩)])) w') :
    Calls Tryz.prog 47 #[.pointer (some ⟨c, 0, none⟩)] w R := by
  have HR := Lib.hid hR
  clear hR
  obtain ⟨b1, b2, t1, t2, m1, m2, h1, h2, h3⟩ := h
  have x2 : w.cell? ⟨c, 3, none⟩ = some (.pointer (some ⟨t2, 0, none⟩)) := cell_at h1 rfl
  have HT := Lib.hid h3
  clear h1 h2 h3
  go_enter Tryz.func47, Tryz.ntmps47
  go_wp2_with fail
  refine allNewB_k _ _ t2 m2 HT.out ?_
  intro B w1 g1
  have hv := HR.out B w1 g1
  clear g1
  go_wp2_with fail
  exact hv
set_option maxRecDepth 100000 in
theorem slots1_stops (F : Fence) (n : Nat) (h7 : F.fn 131) (hro : F.round = none) (w : World) :
    SeqStopsK F n Tryz.prog 131 #[] (fun x : Int × ByteArray => #[Value.int .i64 x.1, Value.string x.2]) (fun _ _ => True) (fun ys => ys = []) (fun _ => False) 0 w := fun l J Jx W hW _ _ hY h0 => by
  refine callsIn_of_wp Tryz.func131 rfl h7 ?_ hro
  simp only [Tryz.ntmps131, List.size_toArray, List.length_cons, List.length_nil, Nat.reduceAdd, Nat.reduceSub, Array.replicate_succ, Array.replicate_zero, List.push_toArray, List.append_toArray, List.nil_append, List.cons_append]
  gi_wp2
  go_end0
  exact ⟨⟨_, rfl⟩, h0⟩
set_option maxRecDepth 100000 in
theorem podSlots1_stops (F : Fence) (n : Nat) (h7 : F.fn 133) (hro : F.round = none) (w : World) :
    SeqStopsK F n Tryz.prog 133 #[] (fun x : Int × ByteArray => #[Value.int .i64 x.1, Value.string x.2]) (fun _ _ => True) (fun ys => ys = []) (fun _ => False) 0 w := fun l J Jx W hW _ _ hY h0 => by
  refine callsIn_of_wp Tryz.func133 rfl h7 ?_ hro
  simp only [Tryz.ntmps133, List.size_toArray, List.length_cons, List.length_nil, Nat.reduceAdd, Nat.reduceSub, Array.replicate_succ, Array.replicate_zero, List.push_toArray, List.append_toArray, List.nil_append, List.cons_append]
  gi_wp2
  go_end0
  exact ⟨⟨_, rfl⟩, h0⟩
end Go.Proofs.YtmenipaibjifiaaGreatDoor
