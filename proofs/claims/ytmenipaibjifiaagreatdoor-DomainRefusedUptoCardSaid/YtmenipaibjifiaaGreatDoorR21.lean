/-
  bitset: All, an iterator over what stood at the call: its contract as the range law wants it.
-/
import Derived.RangeFuncNested
import Derived.RangeFuncBound
import Derived.RangeFuncCalls
import Derived.RangeFuncLeaves
import Derived.Shelf.Abstract
import Derived.Shelf.RegionOpen
import Derived.WalkKit
import Derived.OwnWalkIn
import Derived.TacticsInMore
import Derived.LoopNIn
import Derived.LoopIn
import Derived.Test.YtmenipaibjifiaaGreatDoorR11
set_option linter.unusedVariables false
set_option linter.unusedSimpArgs false
namespace Go.Proofs.YtmenipaibjifiaaGreatDoor
open Go.RowKit Go.Shelf Go.BigFrame

attribute [local go_sem] Oper.semAt_some

/-- The blocks laid from A to B lie as they lay. -/
def KeepB (A B : Nat) (W W' : World) : Prop := W.heap.size ≤ W'.heap.size ∧ ∀ k, A ≤ k → k < B → k < W.heap.size → W'.heap[k]? = W.heap[k]?
theorem KeepB.refl (A B : Nat) (W : World) : KeepB A B W W := ⟨Nat.le_refl _, fun _ _ _ _ => rfl⟩
theorem KeepB.trans {A B : Nat} {X Y Z : World} (h : KeepB A B X Y) (k : KeepB A B Y Z) : KeepB A B X Z := ⟨Nat.le_trans h.1 k.1, fun i h1 h2 h3 => (k.2 i h1 h2 (Nat.lt_of_lt_of_le h3 h.1)).trans (h.2 i h1 h2 h3)⟩
theorem keepB_b {A B : Nat} {w : World} (hn : B ≤ w.heap.size) (W : World) (l : Nat) (o o' : Obj) (hl : w.heap.size ≤ l) (h : W.heap[l]? = some o) (_ : o.isCells = false) (_ : o.isWalk = false) : KeepB A B W (W.putObj l o') := by
  have hg := grownBy_putObj' W l o'
  exact ⟨hg.size, fun k _ h2 h3 => hg.block k h3 (fun e => by cases e; omega)⟩
theorem KeepB.of_mod {A B : Nat} {W W' : World} {S : Nat → Prop} (h : Mod S W W') (hs : ∀ k, A ≤ k → k < B → ¬ S k) : KeepB A B W W' := ⟨h.size, fun k h1 h2 h3 => h.block k h3 (hs k h1 h2)⟩
theorem KeepB.cell {A B : Nat} {W W' : World} (h : KeepB A B W W') {b i : Nat} {x : Value} (hc : W.cell? ⟨b, i, none⟩ = some x) (h1 : A ≤ b) (h2 : b < B) : W'.cell? ⟨b, i, none⟩ = some x := by
  rw [World.cell?_of_block (w := W) (h.2 b h1 h2 (World.block_lt_of_cell? W _ hc))]; exact hc

set_option maxRecDepth 100000 in
set_option maxHeartbeats 2000000 in
/-- All's closure. -/
theorem all1_in (F : Fence) (n : Nat) (h7 : F.fn 212) (hro : F.round = none) (hn : 1 ≤ n) (l Bs A B : Nat) (sv : Value) (zs : List Int) (hz : zs.length ≤ 1073741824) (hBs : A ≤ Bs ∧ Bs < B) (J Jx : List Int → World → Prop)
    (hY : ∀ pre x W, J pre W → pre.length < zs.length → YieldAt F (n - 1) Tryz.prog l #[.int .i64 x] W fun e W' =>
      (e = .returned (.bool true) ∧ J (pre ++ [x]) W' ∧ KeepB A B W W') ∨ (e = .returned (.bool false) ∧ Jx (pre ++ [x]) W'))
    (W : World) (hc : W.cell? ⟨Bs, 0, none⟩ = some sv) (hI : SlK intsK 1 W (fun k => A ≤ k ∧ k < B) sv zs) (h0 : J [] W) :
    CallsIn F n Tryz.prog 212 #[.func (.yield l) #[] #[], .pointer (some ⟨Bs, 0, none⟩)] W fun e W' => (∃ v, e = .returned v) ∧
      ((∃ ys, ys = zs ∧ J ys W') ∨ (∃ pre, pre <+: zs ∧ Jx pre W')) := by
  obtain ⟨Ad, cp, rfl, hlc, _⟩ := hI.form
  refine callsIn_of_wp Tryz.func212 rfl h7 ?_ hro
  simp only [Tryz.ntmps212, List.size_toArray, List.length_cons, List.length_nil, Nat.reduceAdd, Nat.reduceSub, Array.replicate_succ, Array.replicate_zero, List.push_toArray, List.append_toArray, List.nil_append, List.cons_append]
  gi_wp2
  gi_loopw [4, 7] (fun _ i wr => ∃ k : Nat, k ≤ zs.length ∧ i = .int .i64 k ∧ J (zs.take k) wr ∧ KeepB A B W wr)
    (fun _ i _ => zs.length - (intOf i).toNat)
  case atStart => exact ⟨0, Nat.zero_le _, rfl, h0, KeepB.refl _ _ _⟩
  case round =>
    obtain ⟨k, hk, rfl, hJs, hnx⟩ := hrel
    by_cases hlt : k < zs.length
    · obtain ⟨b, off, c', he, _, _, hbk, hbl, hce⟩ := hI.addr (by omega)
      simp only [Value.slice.injEq] at he
      obtain ⟨rfl, -, rfl⟩ := he
      obtain ⟨cs, hcs, hcl, hcc⟩ := hce k hlt
      have hcx := hcc 0 (.int .i64 (zs[k]'hlt)) (by cases hcs; rfl)
      have hcx' := hnx.cell hcx hbk.1 hbk.2
      simp only [Nat.mul_one, Nat.add_zero] at hcx'
      obtain ⟨fn, tmps, assign, body, hy, hR⟩ := hY _ (zs[k]'hlt) wr hJs (by rw [List.length_take]; omega)
      have hsn : zs.take k ++ [zs[k]'hlt] = zs.take (k + 1) := by rw [List.take_succ_eq_append_getElem hlt]
      rw [hsn] at hR
      have HSN := Lib.hid hsn
      clear hsn
      gi_wp2
      refine hR.mono ?_
      rintro e W3 (⟨rfl, hJ3, hk3⟩ | ⟨rfl, hJx3⟩)
      · gi_wp2
        go_roundw
        case rel => exact ⟨k + 1, by omega, by go_num, hJ3, hnx.trans hk3⟩
        case measure => simp [intOf]; omega
      · gi_wp2
        refine bodyPost_ret (results_none rfl _ _ _) rfl ?_
        exact ⟨⟨_, rfl⟩, .inr ⟨_, List.take_prefix _ _, hJx3⟩⟩
    · obtain rfl : k = zs.length := by omega
      rw [List.take_length] at hJs
      gi_wp2
      go_end0
      exact ⟨⟨_, rfl⟩, .inl ⟨_, rfl, hJs⟩⟩
theorem SetIn_below {w w' : World} {ok : Nat → Prop} {v : Value} {n : Nat} {ws : List Nat} (h : SetP w ok v n ws) (hok : ∀ k, ok k → k < w.heap.size) (hB : Below w.heap.size w w') : SetP w' ok v n ws := h.move (fun k hk _ => hB.block k (hok k hk)) (fun _ h _ => h)
set_option maxRecDepth 100000 in
set_option maxHeartbeats 2000000 in
theorem all_k (R : Ending → World → Prop) (w : World) (ok : Nat → Prop) (v : Value) (n : Nat) (ws : List Nat) (hok : ∀ k, ok k → k < w.heap.size) (hS : SetP w ok v n ws) (hn : n % 64 = 0)
    (hR : ∀ Bs sv w', Below w.heap.size w w' → w.heap.size ≤ Bs → Bs < w'.heap.size → w'.cell? ⟨Bs, 0, none⟩ = some sv → SlK intsK 1 w' (fun k => w.heap.size ≤ k ∧ k < w'.heap.size) sv (natI (mems n ws)) →
      R (.returned (.func (.func 212) #[] #[.pointer (some ⟨Bs, 0, none⟩)])) w') :
    Calls Tryz.prog 141 #[v] w R := by
  have HR := Lib.hid hR
  clear hR
  go_enter Tryz.func141, Tryz.ntmps141
  go_wp2_with fail
  refine members_p _ _ ok v n ws hok hS hn ?_
  intro sv w1 hB1 hsl
  obtain ⟨Ad, cp, e, _, _⟩ := hsl.form
  subst e
  go_wp2_with fail
  refine HR.out w1.heap.size _ _ (hB1.alloc hB1.size _) hB1.size (by simp) (cell_new rfl) ?_
  refine SlK.mono intOk (SlK.move intOk (SlK.bnd intOk hsl) (fun k hk => Below.heap_alloc _ _ _ hk.2)) (fun k hk => ⟨hk.1, by have := hk.2; simp; omega⟩)
theorem all_stops (F : Fence) (n : Nat) (h7 : F.fn 212) (hro : F.round = none) (hn : 1 ≤ n) (A Bs : Nat) (sv : Value) (zs : List Int) (hz : zs.length ≤ 1073741824) (w : World) (hBs : A ≤ Bs ∧ Bs < w.heap.size)
    (hc : w.cell? ⟨Bs, 0, none⟩ = some sv) (hI : SlK intsK 1 w (fun k => A ≤ k ∧ k < w.heap.size) sv zs) :
    SeqStopsK F n Tryz.prog 212 #[.pointer (some ⟨Bs, 0, none⟩)] (fun x : Int => #[Value.int .i64 x]) (KeepB A w.heap.size) (fun ys => ys = zs) (fun pre => pre <+: zs) zs.length w := fun l J Jx W hW _ _ hY h0 =>
  all1_in F n h7 hro hn l Bs A w.heap.size sv zs hz hBs J Jx hY W ((hW.cell (p := ⟨Bs, 0, none⟩) hBs.2).trans hc) (hI.below intOk hW (fun k hk => hk.2)) h0
end Go.Proofs.YtmenipaibjifiaaGreatDoor
