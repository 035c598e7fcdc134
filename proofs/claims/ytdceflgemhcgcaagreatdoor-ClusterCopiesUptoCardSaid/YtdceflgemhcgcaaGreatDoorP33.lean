/-
  slots.Table: look, Find, Len: at nodes and at bound pods.
-/
import Derived.Test.YtdceflgemhcgcaaGreatDoorP32
import Derived.Test.YtdceflgemhcgcaaGreatDoorP04
set_option linter.unusedVariables false
set_option linter.unusedSimpArgs false
namespace Go.Proofs.YtdceflgemhcgcaaGreatDoor
open Go.RowKit Go.BigFrame

def plcK : KRel (Pd × ByteArray) := fun w ok x cs => ∃ c, cs = c ++ [.string x.2] ∧ pdK w ok x.1 c
theorem plcOk : KOk plcK 9 where
  len := fun ⟨c, h, h1⟩ => by rw [h]; simp [pdOk.len h1]
  move := fun ⟨c, h, h1⟩ hm => ⟨c, h, pdOk.move h1 hm⟩
  mono := fun ⟨c, h, h1⟩ hm => ⟨c, h, pdOk.mono h1 hm⟩
  bnd := fun ⟨c, h, h1⟩ => ⟨c, h, pdOk.bnd h1⟩
def plc0 : Pd × ByteArray := (pd0, ⟨#[]⟩)
theorem one_nod {w : World} {ok : Nat → Prop} {x : Nod} {cs : List Value} (h : nodK w ok x cs) : ∀ u ∈ cs, u.oneCell' = true := by
  obtain ⟨vl, vt, vc, rfl, h1, h2, h3⟩ := h
  intro u hu
  simp only [List.mem_cons, List.not_mem_nil, or_false] at hu
  rcases hu with rfl | rfl | rfl | rfl | rfl
  · rfl
  · exact h1.one
  · exact h2.one
  · exact h3.one
  · rfl
theorem one_pd {w : World} {ok : Nat → Prop} {x : Pd} {cs : List Value} (h : pdK w ok x cs) : ∀ u ∈ cs, u.oneCell' = true := by
  obtain ⟨vl, vn, vt, va, vp, rfl, h1, h2, h3, h4, h5⟩ := h
  intro u hu
  simp only [List.mem_cons, List.not_mem_nil, or_false] at hu
  rcases hu with rfl | rfl | rfl | rfl | rfl | rfl | rfl | rfl
  · rfl
  · exact h1.one
  · exact h2.one
  · exact h3.one
  · rfl
  · exact h4.one
  · exact h5.one
  · rfl
/-- What a table keeps. -/
structure Tab (α : Type) where
  find : List (ByteArray × Nat)
  rows : List (SRow α)
  low : Nat
def findC (l : List (ByteArray × Nat)) : List (ByteArray × Value) := l.map (fun p => (p.1, .int .i64 (p.2 : Int)))
structure TabAt {α : Type} (K : KRel α) (sz : Nat) (e tt : TypeId) (most : Int) (imm : Nat → Prop) (w : World) (t m : Nat) (v : Value) (T : Tab α) : Prop where
  cell : w.heap[t]? = some (.cells #[.int .i64 most, .map (some m), v, .int .i64 (T.low : Int)] tt)
  map : MapAt Value.string w m (findC T.find)
  rows : OwnK (rowK K) (sz + 2) e w 0 imm v T.rows
theorem aget_findC (l : List (ByteArray × Nat)) (k : ByteArray) : aget (findC l) k = (aget l k).map (fun s => .int .i64 (s : Int)) := by
  unfold findC
  induction l with
  | nil => rfl
  | cons p r ih =>
    simp only [List.map_cons, aget]
    by_cases h : p.1 = k
    · rw [if_pos h, if_pos h]; rfl
    · rw [if_neg h, if_neg h]; exact ih
theorem aset_findC (l : List (ByteArray × Nat)) (k : ByteArray) (s : Nat) : aset (findC l) k (.int .i64 (s : Int)) = findC (aset l k s) := by
  unfold findC
  induction l with
  | nil => rfl
  | cons p r ih =>
    simp only [List.map_cons, aset]
    by_cases h : p.1 = k
    · rw [if_pos h, if_pos h]; rfl
    · rw [if_neg h, if_neg h, List.map_cons, ih]
theorem length_findC (l : List (ByteArray × Nat)) : (findC l).length = l.length := by simp [findC]
def lookR (l : List (ByteArray × Nat)) (k : ByteArray) : Int × Int := match aget l k with | some s => ((s : Int), 0) | none => (0, 54)
section
variable {α : Type} {K : KRel α} {sz : Nat} {e tt : TypeId} {most : Int} {imm : Nat → Prop} {w w' : World} {t m : Nat} {v : Value} {T : Tab α}
theorem TabAt.move (H : KOk K sz) (h : TabAt K sz e tt most imm w t m v T) (hm : ∀ k, k < w.heap.size → (k = t ∨ k = m ∨ imm k ∨ v.ownBlock = some k) → w'.heap[k]? = w.heap[k]?) (hs : w.heap.size ≤ w'.heap.size) : TabAt K sz e tt most imm w' t m v T where
  cell := (hm t (Array.getElem?_eq_some_iff.1 h.cell).1 (.inl rfl)).trans h.cell
  map := h.map.move (hm m h.map.lt (.inr (.inl rfl)))
  rows := h.rows.move (rowOk H) (fun k hk hh => hm k hk (.inr (.inr hh))) hs
theorem TabAt.below (H : KOk K sz) (h : TabAt K sz e tt most imm w t m v T) (hb : Below w.heap.size w w') : TabAt K sz e tt most imm w' t m v T := h.move H (fun k hk _ => hb.block k hk) hb.size
theorem TabAt.imm_lt (h : TabAt K sz e tt most imm w t m v T) {k : Nat} (hk : imm k) : k < w.heap.size := (h.rows.1 k hk).1
/-- A slot's thing, as a range of cells. -/
theorem TabAt.range (H : KOk K sz) (h : TabAt K sz e tt most imm w t m v T) {s : Nat} {r : SRow α} (hr : T.rows[s]? = some r) : ∃ g c cs, v = .slice (some ⟨g, 0, none⟩) T.rows.length c ∧ T.rows.length ≤ c ∧ c ≤ maxLen ∧ g < w.heap.size ∧ K w imm r.thing cs ∧ cs.length = sz ∧ w.rangeAt g (s * (sz + 2) + 2) cs ∧ w.cell? ⟨g, s * (sz + 2), none⟩ = some (.bool r.held) ∧ w.cell? ⟨g, s * (sz + 2) + 1, none⟩ = some (.string r.name) := by
  have hlt := (List.getElem?_eq_some_iff.1 hr).1
  have hs := h.rows.slk (rowOk H)
  obtain ⟨h0, css, hro, hl, hk⟩ := h.rows
  rcases hro.2 with ⟨_, hn⟩ | ⟨g, cap, cur, hv, hB, hg, hnc, hcm, hcur, htake⟩
  · omega
  · have hj : s < css.length := by omega
    obtain ⟨c, hc1, hc2⟩ := hk s r _ hr (List.getElem?_eq_getElem hj)
    have hcs := OwnK.css_len (rowOk H) hl hk
    have hcell : ∀ i u, css[s][i]? = some u → w.cell? ⟨g, s * (sz + 2) + i, none⟩ = some u := fun i u hu => by
      subst hv
      have := hro.cells (g := g) rfl (s * (sz + 2) + i) u (flatten_get css hcs s _ (List.getElem?_eq_getElem hj) i u hu)
      rwa [show (⟨g, 0, none⟩ : Addr).add (s * (sz + 2) + i) = ⟨g, s * (sz + 2) + i, none⟩ by unfold Addr.add; split <;> simp_all] at this
    rw [hc1] at hcell
    refine ⟨g, cap, c, hv, hnc, hcm, (Array.getElem?_eq_some_iff.1 hg).1, hc2, H.len hc2, fun j u hu => ?_, hcell 0 _ rfl, hcell 1 _ rfl⟩
    have := hcell (j + 2) u (by simpa using hu)
    rwa [show s * (sz + 2) + (j + 2) = s * (sz + 2) + 2 + j by omega] at this
end
theorem results_trt {P : Program} {fn : Func} {p q r : Tmp} {ty : TypeId} (h : fn.results = #[.tmp p, .cell q ty, .tmp r]) (tmps : Array Value) (w : World) (g : Nat) (t : TypeId) (cs : Array Value) (fr : Nat × Nat) (d : TypeDesc)
    (hp : tmps.getD q undef = .pointer (some ⟨g, 0, none⟩)) (hg : w.heap[g]? = some (.cells cs t fr))
    (hu : P.underlying ty = some d) (hd : (match d with | .struct _ | .array _ _ => true | _ => false) = true) (hi : (P.info? ty).map (·.size) = some cs.size) :
    (results fn tmps).run P w = .ok (.tuple #[tmps.getD p undef, .agg cs, tmps.getD r undef]) w := by
  have hp' : tmps[q]?.getD undef = .pointer (some ⟨g, 0, none⟩) := by simpa using hp
  simp [results, h, hp', asAddr, run_loadVar_row w g t ty cs fr d hg hu hd hi]
set_option maxRecDepth 100000 in
set_option maxHeartbeats 4000000 in
theorem lookA_k (R : Ending → World → Prop) (w : World) (imm : Nat → Prop) (t m : Nat) (v : Value) (T : Tab Nod) (name : ByteArray) (hT : TabAt nodK 5 266 241 512 imm w t m v T) (h1 : 1 ≤ name.size) (h2 : name.size ≤ 63)
    (hR : R (.returned (.tuple #[.int .i64 (lookR T.find name).1, .int .i64 (lookR T.find name).2])) w) :
    Calls Tryz.prog 177 #[.pointer (some ⟨t, 0, none⟩), .string name] w R := by
  have l1 := hT.map.lookup strK Tryz.underlying238 (z := .int .i64 0) (by kernel_rfl) name true
  rw [aget_findC] at l1
  have y1 : w.cell? ⟨t, 1, none⟩ = some (.map (some m)) := cell_at hT.cell rfl
  have g1 : ¬ (name.size : Int) < 1 := by omega
  have g2 : ¬ (63 : Int) < (name.size : Int) := by omega
  clear hT h1 h2
  cases hf : aget T.find name with
  | none =>
    have hv := hR
    rw [show lookR T.find name = (0, 54) by unfold lookR; rw [hf]] at hv
    have l2 : (Instr.lookup 238 (.map (some m)) (.string name) true).run Tryz.prog w = .ok (.tuple #[.int .i64 0, .bool false]) w := by rw [hf] at l1; exact l1
    clear l1 hR hf
    go_enter Tryz.func177, Tryz.ntmps177
    go_wp2_with fail
    exact hv
  | some s =>
    have hv := hR
    rw [show lookR T.find name = ((s : Int), 0) by unfold lookR; rw [hf]] at hv
    have l2 : (Instr.lookup 238 (.map (some m)) (.string name) true).run Tryz.prog w = .ok (.tuple #[.int .i64 (s : Int), .bool true]) w := by rw [hf] at l1; exact l1
    clear l1 hR hf
    go_enter Tryz.func177, Tryz.ntmps177
    go_wp2_with fail
    exact hv
set_option maxRecDepth 100000 in
set_option maxHeartbeats 8000000 in
theorem findA_some (R : Ending → World → Prop) (w : World) (imm : Nat → Prop) (t m : Nat) (v : Value) (T : Tab Nod) (name : ByteArray) (hT : TabAt nodK 5 266 241 512 imm w t m v T) (h1 : 1 ≤ name.size) (h2 : name.size ≤ 63) (s : Nat) (hf : aget T.find name = some s) (r : SRow Nod) (hr : T.rows[s]? = some r)
    (hR : ∀ cs w', Below w.heap.size w w' → nodK w' imm r.thing cs → R (.returned (.tuple #[.int .i64 (s : Int), .agg cs.toArray, .bool true])) w') :
    Calls Tryz.prog 93 #[.pointer (some ⟨t, 0, none⟩), .string name] w R := by
  have HR := Lib.hid hR
  have HT := Lib.hid hT
  clear hR hT
  obtain ⟨w1, hw1⟩ : ∃ w1, w1 = ((w.alloc (.cells #[.string ⟨#[]⟩, .slice none 0 0, .slice none 0 0, .slice none 0 0, .bool false] 26)).alloc (.cells #[.string ⟨#[]⟩, .slice none 0 0, .slice none 0 0, .slice none 0 0, .bool false] 26)) := ⟨_, rfl⟩
  have HB1 := Lib.hid (show Below w.heap.size w w1 by
    rw [hw1]
    exact Below.alloc (Below.alloc (Below.refl _ _) (Nat.le_refl _) _) (by simp) _)
  have z1 : w.heap.size + 2 ≤ w1.heap.size := by rw [hw1]; simp
  have o1 : w1.heap[w.heap.size]? = some (.cells #[.string ⟨#[]⟩, .slice none 0 0, .slice none 0 0, .slice none 0 0, .bool false] 26 (0, 0)) := by
    rw [hw1]
    exact hkeep (heap_alloc_new w _) _
  have o2 : w1.heap[w.heap.size + 1]? = some (.cells #[.string ⟨#[]⟩, .slice none 0 0, .slice none 0 0, .slice none 0 0, .bool false] 26 (0, 0)) := by
    rw [hw1]
    simpa using heap_alloc_new (w.alloc _) _
  have HT1 := Lib.hid (HT.out.below nodOk HB1.out)
  go_enter Tryz.func93, Tryz.ntmps93
  go_upto_region 2 with fail
  rw [← hw1]
  clear hw1
  go_wp2_with fail
  refine lookA_k _ _ imm t m v T name HT1.out h1 h2 ?_
  rw [show lookR T.find name = ((s : Int), 0) by unfold lookR; rw [hf]]
  clear hf
  obtain ⟨g, c, cs, ev, hlc, hcm, hgl, hk, hcl, hra, _, _⟩ := HT.out.range nodOk hr
  subst ev
  have hlt : s < T.rows.length := (List.getElem?_eq_some_iff.1 hr).1
  have y2 : w.cell? ⟨t, 2, none⟩ = some (.slice (some ⟨g, 0, none⟩) T.rows.length c) := cell_at HT.out.cell rfl
  have GA := Lib.hid (show ∀ W, Below w.heap.size w W → Below w.heap.size w W ∧ W.cell? ⟨t, 2, none⟩ = some (.slice (some ⟨g, 0, none⟩) T.rows.length c) ∧ W.rangeAt g (s * 7 + 2) cs from fun W h => ⟨h, (Mod.of_below h).cell' y2 (fun h => h), fun j u hu => (Mod.of_below h).cell' (hra j u hu) (fun h => h)⟩)
  have HKc := Lib.hid (show ∀ u ∈ cs, u.oneCell' = true from one_nod hk)
  have HK := Lib.hid hk
  clear y2 hra hk
  go_upto_region 5 with fail
  refine wp_region_held_drew (S := fun W => Below w.heap.size w W ∧ W.cell? ⟨t, 2, none⟩ = some (.slice (some ⟨g, 0, none⟩) T.rows.length c) ∧ W.rangeAt g (s * 7 + 2) cs) (by kernel_rfl) (GA.out _ HB1.out.drew) (fun hHeld => ?_)
  refine' wpAnyH_take (i := 0) (v := _) (List.getElem?_toArray.trans rfl) (by kernel_rfl) (by kernel_rfl) (by kernel_rfl) (fun _ _ _ h => h) (Or.inl ⟨by rfl, ?y0a⟩) hHeld ?r0a
  case y0a => intro w h; (try dsimp only at h); go_simp; (try with_reducible rfl)
  try simp only [Act.put, List.setIfInBounds_toArray, List.set_cons_zero, List.set_cons_succ]
  refine' wpAnyH_take (i := 1) (v := _) (List.getElem?_toArray.trans rfl) (by kernel_rfl) (by kernel_rfl) (by kernel_rfl) (fun _ _ _ h => h) (Or.inl ⟨by rfl, ?y1a⟩) hHeld ?r1a
  case y1a => intro w h; (try dsimp only at h); go_simp; (try with_reducible rfl)
  try simp only [Act.put, List.setIfInBounds_toArray, List.set_cons_zero, List.set_cons_succ]
  refine' wpAnyH_take (i := 2) (v := _) (List.getElem?_toArray.trans rfl) (by kernel_rfl) (by kernel_rfl) (by kernel_rfl) (fun _ _ _ h => h) (Or.inl ⟨by rfl, ?y2a⟩) hHeld ?r2a
  case y2a => intro w h; (try dsimp only at h); go_simp; (try with_reducible rfl)
  try simp only [Act.put, List.setIfInBounds_toArray, List.set_cons_zero, List.set_cons_succ]
  refine' wpAnyH_take (i := 3) (v := _) (List.getElem?_toArray.trans rfl) (by kernel_rfl) (by kernel_rfl) (by kernel_rfl) (fun _ _ _ h => h) (Or.inl ⟨by rfl, ?y3a⟩) hHeld ?r3a
  case y3a => intro w h; (try dsimp only at h); go_simp; (try with_reducible rfl)
  try simp only [Act.put, List.setIfInBounds_toArray, List.set_cons_zero, List.set_cons_succ]
  refine' wpAnyH_take (i := 4) (v := _) (List.getElem?_toArray.trans rfl) (by kernel_rfl) (by kernel_rfl) (by kernel_rfl) (fun _ _ _ h => h) (Or.inl ⟨by rfl, ?y4a⟩) hHeld ?r4a
  case y4a => intro w h; (try dsimp only at h); go_simp; (try with_reducible rfl)
  try simp only [Act.put, List.setIfInBounds_toArray, List.set_cons_zero, List.set_cons_succ]
  refine' wpAnyH_take (i := 5) (v := _) (List.getElem?_toArray.trans rfl) (by kernel_rfl) (by kernel_rfl) (by kernel_rfl) (fun _ _ _ h => h) (Or.inl ⟨by rfl, ?y5a⟩) hHeld ?r5a
  case y5a => intro w h; (try dsimp only at h); go_simp; (try with_reducible rfl)
  try simp only [Act.put, List.setIfInBounds_toArray, List.set_cons_zero, List.set_cons_succ]
  refine' wpAnyH_take (i := 6) (v := _) (List.getElem?_toArray.trans rfl) (by kernel_rfl) (by kernel_rfl) (by kernel_rfl) (fun _ _ _ h => h) (Or.inl ⟨by rfl, ?y6a⟩) hHeld ?r6a
  case y6a => intro w h; (try dsimp only at h); go_simp; (try with_reducible rfl)
  try simp only [Act.put, List.setIfInBounds_toArray, List.set_cons_zero, List.set_cons_succ]
  refine' wpAnyH_take (i := 7) (v := _) (List.getElem?_toArray.trans rfl) (by kernel_rfl) (by kernel_rfl) (by kernel_rfl) (fun _ _ _ h => h) (Or.inl ⟨by rfl, ?y7a⟩) hHeld ?r7a
  case y7a => intro w h; (try dsimp only at h); go_simp; (try with_reducible rfl)
  try simp only [Act.put, List.setIfInBounds_toArray, List.set_cons_zero, List.set_cons_succ]
  refine' wpAnyH_take (i := 8) (v := _) (List.getElem?_toArray.trans rfl) (by kernel_rfl) (by kernel_rfl) (by kernel_rfl) (fun _ _ _ h => h) (yieldsIf_load_mid (by rfl) 26 _ rfl g (s * 7 + 2) rfl cs _ (fun W hW => hW.2.2) Tryz.underlying26 rfl (by rw [hcl]; kernel_rfl)) hHeld ?_
  try simp only [Act.put, List.setIfInBounds_toArray, List.set_cons_zero, List.set_cons_succ]
  refine' wpAnyH_take (i := 9) (v := _) (List.getElem?_toArray.trans rfl) (by kernel_rfl) (by kernel_rfl) (by kernel_rfl) (fun _ _ _ h => h) (Or.inl ⟨by rfl, ?y9a⟩) hHeld ?r9a
  case y9a => intro w h; (try dsimp only at h); go_simp; (try with_reducible rfl)
  try simp only [Act.put, List.setIfInBounds_toArray, List.set_cons_zero, List.set_cons_succ]
  refine wpAnyH_ready (rs := [10]) (by kernel_rfl) (by simp) ?_
  refine AllReadyH.cons (List.getElem?_toArray.trans rfl) (fun K hK => ?_) AllReadyH.nil
  have od : w1.drew.heap[w.heap.size]? = some (.cells #[.string ⟨#[]⟩, .slice none 0 0, .slice none 0 0, .slice none 0 0, .bool false] 26 (0, 0)) := o1
  have yy : (w1.drew.setRow w.heap.size cs.toArray).heap[w.heap.size]? = some (.cells cs.toArray 26 (0, 0)) := setRow_heap _ _ _ _ _ _ od
  have gg : Below w.heap.size w (w1.drew.setRow w.heap.size cs.toArray) := below_setRow HB1.out.drew (Nat.le_refl _) _
  have hv := HR.out cs _ gg (nodOk.move HK.out (fun k hk => gg.block k (HT.out.imm_lt hk)))
  refine wp_store_row 26 _ _ rfl w.heap.size cs.toArray rfl rfl 26 #[.string ⟨#[]⟩, .slice none 0 0, .slice none 0 0, .slice none 0 0, .bool false] od (by simp only [List.size_toArray, hcl]; kernel_rfl) (by simp [hcl]) (all_oneCell_toArray HKc.out) ?_
  refine hK.out _ _ (GA.out _ gg) (fun hHeld => ?_)
  clear hK K
  try simp only [Act.put, List.setIfInBounds_toArray, List.set_cons_zero, List.set_cons_succ]
  refine' wpAnyH_take (i := 11) (v := _) (List.getElem?_toArray.trans rfl) (by kernel_rfl) (by kernel_rfl) (by kernel_rfl) (fun _ _ _ h => h) (Or.inl ⟨by rfl, ?y11b⟩) hHeld ?r11b
  case y11b => intro w h; (try dsimp only at h); go_simp; (try with_reducible rfl)
  try simp only [Act.put, List.setIfInBounds_toArray, List.set_cons_zero, List.set_cons_succ]
  refine wpAnyH_done (by kernel_rfl) ?_ _
  go_wp2_with fail
  exact bodyPost_ret (results_trt Tryz.results93 _ _ w.heap.size 26 cs.toArray (0, 0) _ rfl yy Tryz.underlying26 rfl (by simp only [List.size_toArray, hcl]; kernel_rfl)) rfl hv
set_option maxRecDepth 100000 in
set_option maxHeartbeats 4000000 in
theorem lookB_k (R : Ending → World → Prop) (w : World) (imm : Nat → Prop) (t m : Nat) (v : Value) (T : Tab (Pd × ByteArray)) (name : ByteArray) (hT : TabAt plcK 9 269 244 2048 imm w t m v T) (h1 : 1 ≤ name.size) (h2 : name.size ≤ 63)
    (hR : R (.returned (.tuple #[.int .i64 (lookR T.find name).1, .int .i64 (lookR T.find name).2])) w) :
    Calls Tryz.prog 176 #[.pointer (some ⟨t, 0, none⟩), .string name] w R := by
  have l1 := hT.map.lookup strK Tryz.underlying238 (z := .int .i64 0) (by kernel_rfl) name true
  rw [aget_findC] at l1
  have y1 : w.cell? ⟨t, 1, none⟩ = some (.map (some m)) := cell_at hT.cell rfl
  have g1 : ¬ (name.size : Int) < 1 := by omega
  have g2 : ¬ (63 : Int) < (name.size : Int) := by omega
  clear hT h1 h2
  cases hf : aget T.find name with
  | none =>
    have hv := hR
    rw [show lookR T.find name = (0, 54) by unfold lookR; rw [hf]] at hv
    have l2 : (Instr.lookup 238 (.map (some m)) (.string name) true).run Tryz.prog w = .ok (.tuple #[.int .i64 0, .bool false]) w := by rw [hf] at l1; exact l1
    clear l1 hR hf
    go_enter Tryz.func176, Tryz.ntmps176
    go_wp2_with fail
    exact hv
  | some s =>
    have hv := hR
    rw [show lookR T.find name = ((s : Int), 0) by unfold lookR; rw [hf]] at hv
    have l2 : (Instr.lookup 238 (.map (some m)) (.string name) true).run Tryz.prog w = .ok (.tuple #[.int .i64 (s : Int), .bool true]) w := by rw [hf] at l1; exact l1
    clear l1 hR hf
    go_enter Tryz.func176, Tryz.ntmps176
    go_wp2_with fail
    exact hv
set_option maxRecDepth 100000 in
set_option maxHeartbeats 8000000 in
theorem findB_none (R : Ending → World → Prop) (w : World) (imm : Nat → Prop) (t m : Nat) (v : Value) (T : Tab (Pd × ByteArray)) (name : ByteArray) (hT : TabAt plcK 9 269 244 2048 imm w t m v T) (h1 : 1 ≤ name.size) (h2 : name.size ≤ 63) (hf : aget T.find name = none)
    (hR : ∀ w', Below w.heap.size w w' → R (.returned (.tuple #[.int .i64 0, .agg #[.string ⟨#[]⟩, .slice none 0 0, .slice none 0 0, .slice none 0 0, .string ⟨#[]⟩, .slice none 0 0, .slice none 0 0, .int .i64 0, .string ⟨#[]⟩], .bool false])) w') :
    Calls Tryz.prog 92 #[.pointer (some ⟨t, 0, none⟩), .string name] w R := by
  have HR := Lib.hid hR
  have HT := Lib.hid hT
  clear hR hT
  obtain ⟨w1, hw1⟩ : ∃ w1, w1 = ((w.alloc (.cells #[.string ⟨#[]⟩, .slice none 0 0, .slice none 0 0, .slice none 0 0, .string ⟨#[]⟩, .slice none 0 0, .slice none 0 0, .int .i64 0, .string ⟨#[]⟩] 176)).alloc (.cells #[.string ⟨#[]⟩, .slice none 0 0, .slice none 0 0, .slice none 0 0, .string ⟨#[]⟩, .slice none 0 0, .slice none 0 0, .int .i64 0, .string ⟨#[]⟩] 176)) := ⟨_, rfl⟩
  have HB1 := Lib.hid (show Below w.heap.size w w1 by
    rw [hw1]
    exact Below.alloc (Below.alloc (Below.refl _ _) (Nat.le_refl _) _) (by simp) _)
  have z1 : w.heap.size + 2 ≤ w1.heap.size := by rw [hw1]; simp
  have o1 : w1.heap[w.heap.size]? = some (.cells #[.string ⟨#[]⟩, .slice none 0 0, .slice none 0 0, .slice none 0 0, .string ⟨#[]⟩, .slice none 0 0, .slice none 0 0, .int .i64 0, .string ⟨#[]⟩] 176 (0, 0)) := by
    rw [hw1]
    exact hkeep (heap_alloc_new w _) _
  have o2 : w1.heap[w.heap.size + 1]? = some (.cells #[.string ⟨#[]⟩, .slice none 0 0, .slice none 0 0, .slice none 0 0, .string ⟨#[]⟩, .slice none 0 0, .slice none 0 0, .int .i64 0, .string ⟨#[]⟩] 176 (0, 0)) := by
    rw [hw1]
    simpa using heap_alloc_new (w.alloc _) _
  have HT1 := Lib.hid (HT.out.below plcOk HB1.out)
  go_enter Tryz.func92, Tryz.ntmps92
  go_upto_region 2 with fail
  rw [← hw1]
  clear hw1
  go_wp2_with fail
  refine lookB_k _ _ imm t m v T name HT1.out h1 h2 ?_
  rw [show lookR T.find name = (0, 54) by unfold lookR; rw [hf]]
  clear hf
  go_upto_region 4 with fail
  have r2 : w1.rangeAt (w.heap.size + 1) 0 [.string ⟨#[]⟩, .slice none 0 0, .slice none 0 0, .slice none 0 0, .string ⟨#[]⟩, .slice none 0 0, .slice none 0 0, .int .i64 0, .string ⟨#[]⟩] := by
    have h := World.rangeAt_of_block o2 0 9
    simpa using h
  refine wp_region_held_drew (S := fun W => Below w.heap.size w W ∧ W.rangeAt (w.heap.size + 1) 0 [.string ⟨#[]⟩, .slice none 0 0, .slice none 0 0, .slice none 0 0, .string ⟨#[]⟩, .slice none 0 0, .slice none 0 0, .int .i64 0, .string ⟨#[]⟩]) (by kernel_rfl) ⟨HB1.out.drew, r2⟩ (fun hHeld => ?_)
  refine' wpAnyH_take (i := 0) (v := _) (List.getElem?_toArray.trans rfl) (by kernel_rfl) (by kernel_rfl) (by kernel_rfl) (fun _ _ _ h => h) (yieldsIf_load_mid (by rfl) 176 _ rfl (w.heap.size + 1) 0 rfl [.string ⟨#[]⟩, .slice none 0 0, .slice none 0 0, .slice none 0 0, .string ⟨#[]⟩, .slice none 0 0, .slice none 0 0, .int .i64 0, .string ⟨#[]⟩] _ (fun W hW => hW.2) Tryz.underlying176 rfl (by kernel_rfl)) hHeld ?_
  try simp only [Act.put, List.setIfInBounds_toArray, List.set_cons_zero, List.set_cons_succ]
  refine' wpAnyH_take (i := 1) (v := _) (List.getElem?_toArray.trans rfl) (by kernel_rfl) (by kernel_rfl) (by kernel_rfl) (fun _ _ _ h => h) (Or.inl ⟨by rfl, ?y1a⟩) hHeld ?r1a
  case y1a => intro w h; (try dsimp only at h); go_simp; (try with_reducible rfl)
  try simp only [Act.put, List.setIfInBounds_toArray, List.set_cons_zero, List.set_cons_succ]
  refine wpAnyH_ready (rs := [2]) (by kernel_rfl) (by simp) ?_
  refine AllReadyH.cons (List.getElem?_toArray.trans rfl) (fun K hK => ?_) AllReadyH.nil
  have od : w1.drew.heap[w.heap.size]? = some (.cells #[.string ⟨#[]⟩, .slice none 0 0, .slice none 0 0, .slice none 0 0, .string ⟨#[]⟩, .slice none 0 0, .slice none 0 0, .int .i64 0, .string ⟨#[]⟩] 176 (0, 0)) := o1
  have yy : (w1.drew.setRow w.heap.size #[.string ⟨#[]⟩, .slice none 0 0, .slice none 0 0, .slice none 0 0, .string ⟨#[]⟩, .slice none 0 0, .slice none 0 0, .int .i64 0, .string ⟨#[]⟩]).heap[w.heap.size]? = some (.cells #[.string ⟨#[]⟩, .slice none 0 0, .slice none 0 0, .slice none 0 0, .string ⟨#[]⟩, .slice none 0 0, .slice none 0 0, .int .i64 0, .string ⟨#[]⟩] 176 (0, 0)) := setRow_heap _ _ _ _ _ _ od
  have gg : Below w.heap.size w (w1.drew.setRow w.heap.size #[.string ⟨#[]⟩, .slice none 0 0, .slice none 0 0, .slice none 0 0, .string ⟨#[]⟩, .slice none 0 0, .slice none 0 0, .int .i64 0, .string ⟨#[]⟩]) := below_setRow HB1.out.drew (Nat.le_refl _) _
  have hv := HR.out _ gg
  refine wp_store_row 176 _ _ rfl w.heap.size #[.string ⟨#[]⟩, .slice none 0 0, .slice none 0 0, .slice none 0 0, .string ⟨#[]⟩, .slice none 0 0, .slice none 0 0, .int .i64 0, .string ⟨#[]⟩] rfl rfl 176 #[.string ⟨#[]⟩, .slice none 0 0, .slice none 0 0, .slice none 0 0, .string ⟨#[]⟩, .slice none 0 0, .slice none 0 0, .int .i64 0, .string ⟨#[]⟩] od (by kernel_rfl) (by simp) (by simp [Value.oneCell']) ?_
  refine hK.out _ _ ⟨gg, by
    have h := World.rangeAt_of_block ((setRow_other w1.drew w.heap.size (w.heap.size + 1) #[.string ⟨#[]⟩, .slice none 0 0, .slice none 0 0, .slice none 0 0, .string ⟨#[]⟩, .slice none 0 0, .slice none 0 0, .int .i64 0, .string ⟨#[]⟩] (by omega)).trans o2) 0 9
    simpa using h⟩ (fun hHeld => ?_)
  clear hK K
  try simp only [Act.put, List.setIfInBounds_toArray, List.set_cons_zero, List.set_cons_succ]
  refine' wpAnyH_take (i := 3) (v := _) (List.getElem?_toArray.trans rfl) (by kernel_rfl) (by kernel_rfl) (by kernel_rfl) (fun _ _ _ h => h) (Or.inl ⟨by rfl, ?y3b⟩) hHeld ?r3b
  case y3b => intro w h; (try dsimp only at h); go_simp; (try with_reducible rfl)
  try simp only [Act.put, List.setIfInBounds_toArray, List.set_cons_zero, List.set_cons_succ]
  refine wpAnyH_done (by kernel_rfl) ?_ _
  go_wp2_with fail
  exact bodyPost_ret (results_trt Tryz.results92 _ _ w.heap.size 176 #[.string ⟨#[]⟩, .slice none 0 0, .slice none 0 0, .slice none 0 0, .string ⟨#[]⟩, .slice none 0 0, .slice none 0 0, .int .i64 0, .string ⟨#[]⟩] (0, 0) _ rfl yy Tryz.underlying176 rfl (by kernel_rfl)) rfl hv
end Go.Proofs.YtdceflgemhcgcaaGreatDoor
