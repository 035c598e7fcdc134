/-
  CopyNode, CopyPod, CopyChange.
-/
import Derived.Test.YtmenipaibjifiaaGreatDoorC13
import Derived.Handy
set_option linter.unusedVariables false
set_option linter.unusedSimpArgs false
namespace Go.Proofs.YtmenipaibjifiaaGreatDoor
open Go.RowKit Go.BigFrame

theorem infoTnt : (Tryz.prog.info? 100).map (fun i => (i.zero, i.size, i.bytes)) = some (some (.agg #[.string ⟨#[]⟩, .string ⟨#[]⟩, .string ⟨#[]⟩]), 3, 48) := by kernel_rfl
theorem infoItm : (Tryz.prog.info? 185).map (fun i => (i.zero, i.size, i.bytes)) = some (some (.agg #[.string ⟨#[]⟩, .int .i64 0]), 2, 24) := by kernel_rfl
theorem infoTol : (Tryz.prog.info? 224).map (fun i => (i.zero, i.size, i.bytes)) = some (some (.agg #[.string ⟨#[]⟩, .string ⟨#[]⟩, .string ⟨#[]⟩, .string ⟨#[]⟩]), 4, 64) := by kernel_rfl
theorem infoApt : (Tryz.prog.info? 215).map (fun i => (i.zero, i.size, i.bytes)) = some (some (.agg #[.string ⟨#[]⟩, .string ⟨#[]⟩]), 2, 32) := by kernel_rfl
theorem infoPrf : (Tryz.prog.info? 217).map (fun i => (i.zero, i.size, i.bytes)) = some (some (.agg #[.int .i64 0, .string ⟨#[]⟩]), 2, 24) := by kernel_rfl
theorem one_lab {w : World} {ok : Nat → Prop} {y : Lab} {cs : List Value} (h : labK w ok y cs) : ∀ u ∈ cs, u.oneCell' = true := by
  intro u hu
  cases h
  simp [labC] at hu
  rcases hu with rfl | rfl <;> rfl
theorem one_tnt {w : World} {ok : Nat → Prop} {y : Tnt} {cs : List Value} (h : tntK w ok y cs) : ∀ u ∈ cs, u.oneCell' = true := by
  intro u hu
  cases h
  simp [tntC] at hu
  rcases hu with rfl | rfl | rfl <;> rfl
theorem one_itm {w : World} {ok : Nat → Prop} {y : Itm} {cs : List Value} (h : itmK w ok y cs) : ∀ u ∈ cs, u.oneCell' = true := by
  intro u hu
  cases h
  simp [itmC] at hu
  rcases hu with rfl | rfl <;> rfl
theorem one_tol {w : World} {ok : Nat → Prop} {y : Tol} {cs : List Value} (h : tolK w ok y cs) : ∀ u ∈ cs, u.oneCell' = true := by
  intro u hu
  cases h
  simp [tolC] at hu
  rcases hu with rfl | rfl | rfl | rfl <;> rfl
theorem one_apt {w : World} {ok : Nat → Prop} {y : Apt} {cs : List Value} (h : aptK w ok y cs) : ∀ u ∈ cs, u.oneCell' = true := by
  intro u hu
  cases h
  simp [aptC] at hu
  rcases hu with rfl | rfl <;> rfl
theorem one_prf {w : World} {ok : Nat → Prop} {y : Prf} {cs : List Value} (h : prfK w ok y cs) : ∀ u ∈ cs, u.oneCell' = true := by
  intro u hu
  cases h
  simp [prfC] at hu
  rcases hu with rfl | rfl <;> rfl

/-- append([]T{}, vx...): a row of its own, new. -/
theorem append_copy_k {α : Type} {P : Program} {ops : Array Oper} {rest : List Oper} {o : Oper} {a : Act} {Q : Exit → Act → World → Prop} {K : KRel α} {sz : Nat} {V : World} (H : KOk K sz)
    (hgd : o.guard = none) (s x : Operand) (t e : TypeId) (z : Value) (bytes : Nat) (ok : Nat → Prop) (hflat : ∀ w ok ok' y cs, K w ok y cs → K w ok' y cs)
    (ho : o.op = .call { callee := .builtin .append, args := #[s, x], argTypes := #[t, t] })
    (ht : P.underlying t = some (.slice e)) (hinfo : (P.info? e).map (fun i => (i.zero, i.size, i.bytes)) = some (some z, sz, bytes)) (hz : z.cells.size = sz) (hsz : 0 < sz) (hb0 : 0 < bytes)
    (b0 : Nat) (vx : Value) (ys : List α) (hs : a.eval s = .slice (some ⟨b0, 0, none⟩) 0 0) (hx : a.eval x = vx) (h1 : ∀ w ok y cs, K w ok y cs → ∀ u ∈ cs, u.oneCell' = true)
    (hok : ∀ k, ok k → k < V.heap.size) (HR : SlK K sz V ok vx ys) (hb : b0 = V.heap.size) (hl : ys.length * bytes ≤ 140737488355328)
    (h : ∀ v1 w1, SlK K sz w1 (fun k => V.heap.size ≤ k) v1 ys → Below V.heap.size V w1 → wpList P ops Q rest (a.put o.dst v1) w1) :
    wpList P ops Q (o :: rest) a (V.alloc (.cells #[] e)) := by
  subst hb
  have hO : OwnK K sz e (V.alloc (.cells #[] e)) V.heap.size (fun _ => False) (.slice (some ⟨V.heap.size, 0, none⟩) 0 0) ([] : List α) := OwnK.made (fun _ h => h.elim) (Nat.le_refl _) (by simp [maxLen]) (by simp)
  have hB0 : Below V.heap.size V (V.alloc (.cells #[] e)) := Below.alloc (Below.refl _ _) (Nat.le_refl _) _
  refine append_row_k H hgd s x t e z bytes V.heap.size (fun _ => False) ok (fun y cs h => hflat _ _ _ _ _ h) ho ht hinfo hz hsz hb0 _ vx [] ys hs hx h1 hO (HR.below H hB0 hok) (by simp) (by simpa using hl) ?_
  intro v1 w1 hO2 hg _
  refine h v1 w1 (SlK.mono H (hO2.slk H) (fun k hk => hk.elim (fun h => h.elim) (fun h => (hO2.own k h).1))) (hB0.grown hg hB0.size (fun k h => (hO.own k h).1))

theorem heap_setCell_at {w : World} {b i : Nat} {cs : Array Value} {T : TypeId} {fz : Nat × Nat} {v : Value} (h : w.heap[b]? = some (.cells cs T fz)) : (w.setCell ⟨b, i, none⟩ v).heap[b]? = some (.cells (cs.setIfInBounds i v) T fz) := by
  simp only [World.setCell, Array.getElem?_modify]
  simp [h]
theorem frozen_at {w : World} {b i : Nat} {cs : Array Value} {T : TypeId} (h : w.heap[b]? = some (.cells cs T)) : w.frozen? ⟨b, i, none⟩ = false := by
  simp [World.frozen?, h]
/-- Lists that are short. -/
def NodShort (n : Nod) : Prop := n.labels.length ≤ 1073741824 ∧ n.taints.length ≤ 1073741824 ∧ n.cap.length ≤ 1073741824
def PdShort (p : Pd) : Prop := p.labels.length ≤ 1073741824 ∧ p.needs.length ≤ 1073741824 ∧ p.tols.length ≤ 1073741824 ∧ p.apart.length ≤ 1073741824 ∧ p.prefer.length ≤ 1073741824

set_option maxRecDepth 100000 in
set_option maxHeartbeats 40000000 in
theorem copyNode_k (R : Ending → World → Prop) (w : World) (ok : Nat → Prop) (x : Nod) (cs : List Value) (hok : ∀ k, ok k → k < w.heap.size) (hx : nodK w ok x cs) (hs : NodShort x)
    (hR : ∀ cs' w', Below w.heap.size w w' → nodK w' (fun k => w.heap.size ≤ k) x cs' → R (.returned (.agg cs'.toArray)) w') :
    Calls Tryz.prog 31 #[.agg cs.toArray] w R := by
  obtain ⟨vl, vt, vc, rfl, hl, ht, hc⟩ := hx
  obtain ⟨s1, s2, s3⟩ := hs
  have HR := Lib.hid hR
  clear hR
  have hB : ∀ o1 o2 : Obj, Below w.heap.size w ((w.alloc o1).alloc o2) := fun o1 o2 => Below.alloc (Below.alloc (Below.refl _ _) (Nat.le_refl _) _) (by simp) _
  have HB := Lib.hid hB
  clear hB
  go_enter Tryz.func31, Tryz.ntmps31
  go_wp2_with (at_builtin; refine append_copy_k labOk rfl _ _ 31 108 (.agg #[.string ⟨#[]⟩, .string ⟨#[]⟩]) 32 ok (fun _ _ _ _ _ h => h) rfl Tryz.underlying31 infoLab rfl (by decide) (by decide) (w.heap.size + 1 + 1) _ x.labels rfl rfl (fun _ _ _ _ h => one_lab h) ?c1 (hl.below labOk (HB.out _ _) hok) ?c2 ?c3 ?_)
  case c1 => intro k hk; have := hok k hk; simp; omega
  case c2 => simp
  case c3 => omega
  intro v1 w1 hv1 hB1
  try simp only [World.size_alloc] at hv1 hB1
  have z1 : w.heap.size + 2 ≤ w1.heap.size := by have := hB1.size; simp at this; omega
  have t1 : Below w.heap.size w w1 := (HB.out _ _).trans (hB1.mono (by omega))
  have o1 : w1.heap[w.heap.size]? = some (.cells #[.string x.name, vl, vt, vc, .bool x.cord] 35) := (hB1.block _ (by omega)).trans ((Below.heap_alloc _ _ _ (by simp)).trans (heap_alloc_new w _))
  have p1 : w1.heap[w.heap.size + 1]? = some (.cells #[.string ⟨#[]⟩, .slice none 0 0, .slice none 0 0, .slice none 0 0, .bool false] 35) := (hB1.block _ (by omega)).trans (by simpa using heap_alloc_new (w.alloc (.cells #[.string x.name, vl, vt, vc, .bool x.cord] 35)) _)
  have hv1 := hv1.bnd labOk
  obtain ⟨A1, d1, e1, -, -⟩ := hv1.form
  subst e1
  clear hB1
  have c1_0 : w1.cell? ⟨w.heap.size, 0, none⟩ = some (.string x.name) := cell_at o1 rfl
  have c1_1 : w1.cell? ⟨w.heap.size, 1, none⟩ = some (vl) := cell_at o1 rfl
  have c1_2 : w1.cell? ⟨w.heap.size, 2, none⟩ = some (vt) := cell_at o1 rfl
  have c1_3 : w1.cell? ⟨w.heap.size, 3, none⟩ = some (vc) := cell_at o1 rfl
  have c1_4 : w1.cell? ⟨w.heap.size, 4, none⟩ = some (.bool x.cord) := cell_at o1 rfl
  have f1 : w1.frozen? ⟨w.heap.size, 1, none⟩ = false := frozen_at o1
  have r1 : ∀ o : Obj, ((w1.setCell ⟨w.heap.size, 1, none⟩ (.slice A1 x.labels.length d1)).alloc o).cell? ⟨w.heap.size, 2, none⟩ = some (vt) := fun o => cell_old (cell_at (heap_setCell_at o1) rfl) o
  have g1 : Below w.heap.size w (w1.setCell ⟨w.heap.size, 1, none⟩ (.slice A1 x.labels.length d1)) := Below.setCell t1 (Nat.le_refl _) _
  go_wp2_with (at_builtin; refine append_copy_k tntOk rfl _ _ 32 100 (.agg #[.string ⟨#[]⟩, .string ⟨#[]⟩, .string ⟨#[]⟩]) 48 ok (fun _ _ _ _ _ h => h) rfl Tryz.underlying32 infoTnt rfl (by decide) (by decide) (w1.heap.size) _ x.taints rfl rfl (fun _ _ _ _ h => one_tnt h) ?c1 (ht.below tntOk g1 hok) ?c2 ?c3 ?_)
  case c1 => intro k hk; have := hok k hk; simp; omega
  case c2 => simp
  case c3 => omega
  intro v2 w2 hv2 hB2
  try simp only [World.size_setCell] at hv2 hB2
  have y2 : w1.heap.size ≤ w2.heap.size := by simpa using hB2.size
  have z2 : w.heap.size + 2 ≤ w2.heap.size := by omega
  have t2 : Below w.heap.size w w2 := g1.trans (hB2.mono (by omega))
  have o2 : w2.heap[w.heap.size]? = some (.cells #[.string x.name, .slice A1 x.labels.length d1, vt, vc, .bool x.cord] 35) := (hB2.block _ (by omega)).trans ((heap_setCell_at o1).trans rfl)
  have p2 : w2.heap[w.heap.size + 1]? = some (.cells #[.string ⟨#[]⟩, .slice none 0 0, .slice none 0 0, .slice none 0 0, .bool false] 35) := (hB2.block _ (by omega)).trans ((Below.heap_setCell _ _ _ _ (by simp)).trans p1)
  have hv1 := hv1.move labOk (w' := w2) (fun j hj => (hB2.block j (by have := hj.2; omega)).trans (Below.heap_setCell _ _ _ _ (by have := hj.1; simp; omega)))
  have hv2 := hv2.bnd tntOk
  obtain ⟨A2, d2, e2, -, -⟩ := hv2.form
  subst e2
  clear hB2
  clear c1_0 c1_1 c1_2 c1_3 c1_4 f1 r1 g1 o1 p1 t1
  have c2_0 : w2.cell? ⟨w.heap.size, 0, none⟩ = some (.string x.name) := cell_at o2 rfl
  have c2_1 : w2.cell? ⟨w.heap.size, 1, none⟩ = some (.slice A1 x.labels.length d1) := cell_at o2 rfl
  have c2_2 : w2.cell? ⟨w.heap.size, 2, none⟩ = some (vt) := cell_at o2 rfl
  have c2_3 : w2.cell? ⟨w.heap.size, 3, none⟩ = some (vc) := cell_at o2 rfl
  have c2_4 : w2.cell? ⟨w.heap.size, 4, none⟩ = some (.bool x.cord) := cell_at o2 rfl
  have f2 : w2.frozen? ⟨w.heap.size, 2, none⟩ = false := frozen_at o2
  have r2 : ∀ o : Obj, ((w2.setCell ⟨w.heap.size, 2, none⟩ (.slice A2 x.taints.length d2)).alloc o).cell? ⟨w.heap.size, 3, none⟩ = some (vc) := fun o => cell_old (cell_at (heap_setCell_at o2) rfl) o
  have g2 : Below w.heap.size w (w2.setCell ⟨w.heap.size, 2, none⟩ (.slice A2 x.taints.length d2)) := Below.setCell t2 (Nat.le_refl _) _
  go_wp2_with (at_builtin; refine append_copy_k itmOk rfl _ _ 33 185 (.agg #[.string ⟨#[]⟩, .int .i64 0]) 24 ok (fun _ _ _ _ _ h => h) rfl Tryz.underlying33 infoItm rfl (by decide) (by decide) (w2.heap.size) _ x.cap rfl rfl (fun _ _ _ _ h => one_itm h) ?c1 (hc.below itmOk g2 hok) ?c2 ?c3 ?_)
  case c1 => intro k hk; have := hok k hk; simp; omega
  case c2 => simp
  case c3 => omega
  intro v3 w3 hv3 hB3
  try simp only [World.size_setCell] at hv3 hB3
  have y3 : w2.heap.size ≤ w3.heap.size := by simpa using hB3.size
  have z3 : w.heap.size + 2 ≤ w3.heap.size := by omega
  have t3 : Below w.heap.size w w3 := g2.trans (hB3.mono (by omega))
  have o3 : w3.heap[w.heap.size]? = some (.cells #[.string x.name, .slice A1 x.labels.length d1, .slice A2 x.taints.length d2, vc, .bool x.cord] 35) := (hB3.block _ (by omega)).trans ((heap_setCell_at o2).trans rfl)
  have p3 : w3.heap[w.heap.size + 1]? = some (.cells #[.string ⟨#[]⟩, .slice none 0 0, .slice none 0 0, .slice none 0 0, .bool false] 35) := (hB3.block _ (by omega)).trans ((Below.heap_setCell _ _ _ _ (by simp)).trans p2)
  have hv1 := hv1.move labOk (w' := w3) (fun j hj => (hB3.block j (by have := hj.2; omega)).trans (Below.heap_setCell _ _ _ _ (by have := hj.1; simp; omega)))
  have hv2 := hv2.move tntOk (w' := w3) (fun j hj => (hB3.block j (by have := hj.2; omega)).trans (Below.heap_setCell _ _ _ _ (by have := hj.1; simp; omega)))
  have hv3 := hv3.bnd itmOk
  obtain ⟨A3, d3, e3, -, -⟩ := hv3.form
  subst e3
  clear hB3
  clear c2_0 c2_1 c2_2 c2_3 c2_4 f2 r2 g2 o2 p2 t2
  have c3_0 : w3.cell? ⟨w.heap.size, 0, none⟩ = some (.string x.name) := cell_at o3 rfl
  have c3_1 : w3.cell? ⟨w.heap.size, 1, none⟩ = some (.slice A1 x.labels.length d1) := cell_at o3 rfl
  have c3_2 : w3.cell? ⟨w.heap.size, 2, none⟩ = some (.slice A2 x.taints.length d2) := cell_at o3 rfl
  have c3_3 : w3.cell? ⟨w.heap.size, 3, none⟩ = some (vc) := cell_at o3 rfl
  have c3_4 : w3.cell? ⟨w.heap.size, 4, none⟩ = some (.bool x.cord) := cell_at o3 rfl
  have f3 : w3.frozen? ⟨w.heap.size, 3, none⟩ = false := frozen_at o3
  have g3 : Below w.heap.size w (w3.setCell ⟨w.heap.size, 3, none⟩ (.slice A3 x.cap.length d3)) := Below.setCell t3 (Nat.le_refl _) _
  have q_0 : (w3.setCell ⟨w.heap.size, 3, none⟩ (.slice A3 x.cap.length d3)).cell? ⟨w.heap.size, 0, none⟩ = some (.string x.name) := cell_at (heap_setCell_at o3) rfl
  have q_1 : (w3.setCell ⟨w.heap.size, 3, none⟩ (.slice A3 x.cap.length d3)).cell? ⟨w.heap.size, 1, none⟩ = some (.slice A1 x.labels.length d1) := cell_at (heap_setCell_at o3) rfl
  have q_2 : (w3.setCell ⟨w.heap.size, 3, none⟩ (.slice A3 x.cap.length d3)).cell? ⟨w.heap.size, 2, none⟩ = some (.slice A2 x.taints.length d2) := cell_at (heap_setCell_at o3) rfl
  have q_3 : (w3.setCell ⟨w.heap.size, 3, none⟩ (.slice A3 x.cap.length d3)).cell? ⟨w.heap.size, 3, none⟩ = some (.slice A3 x.cap.length d3) := cell_at (heap_setCell_at o3) rfl
  have q_4 : (w3.setCell ⟨w.heap.size, 3, none⟩ (.slice A3 x.cap.length d3)).cell? ⟨w.heap.size, 4, none⟩ = some (.bool x.cord) := cell_at (heap_setCell_at o3) rfl
  have u_0 : (w3.setCell ⟨w.heap.size, 3, none⟩ (.slice A3 x.cap.length d3)).cell? ⟨w.heap.size + 1, 0, none⟩ = some (.string ⟨#[]⟩) := cell_at ((Below.heap_setCell _ _ _ _ (by simp)).trans p3) rfl
  have fu_0 : (w3.setCell ⟨w.heap.size, 3, none⟩ (.slice A3 x.cap.length d3)).frozen? ⟨w.heap.size + 1, 0, none⟩ = false := frozen_at ((Below.heap_setCell _ _ _ _ (by simp)).trans p3)
  have u_1 : (w3.setCell ⟨w.heap.size, 3, none⟩ (.slice A3 x.cap.length d3)).cell? ⟨w.heap.size + 1, 1, none⟩ = some (.slice none 0 0) := cell_at ((Below.heap_setCell _ _ _ _ (by simp)).trans p3) rfl
  have fu_1 : (w3.setCell ⟨w.heap.size, 3, none⟩ (.slice A3 x.cap.length d3)).frozen? ⟨w.heap.size + 1, 1, none⟩ = false := frozen_at ((Below.heap_setCell _ _ _ _ (by simp)).trans p3)
  have u_2 : (w3.setCell ⟨w.heap.size, 3, none⟩ (.slice A3 x.cap.length d3)).cell? ⟨w.heap.size + 1, 2, none⟩ = some (.slice none 0 0) := cell_at ((Below.heap_setCell _ _ _ _ (by simp)).trans p3) rfl
  have fu_2 : (w3.setCell ⟨w.heap.size, 3, none⟩ (.slice A3 x.cap.length d3)).frozen? ⟨w.heap.size + 1, 2, none⟩ = false := frozen_at ((Below.heap_setCell _ _ _ _ (by simp)).trans p3)
  have u_3 : (w3.setCell ⟨w.heap.size, 3, none⟩ (.slice A3 x.cap.length d3)).cell? ⟨w.heap.size + 1, 3, none⟩ = some (.slice none 0 0) := cell_at ((Below.heap_setCell _ _ _ _ (by simp)).trans p3) rfl
  have fu_3 : (w3.setCell ⟨w.heap.size, 3, none⟩ (.slice A3 x.cap.length d3)).frozen? ⟨w.heap.size + 1, 3, none⟩ = false := frozen_at ((Below.heap_setCell _ _ _ _ (by simp)).trans p3)
  have u_4 : (w3.setCell ⟨w.heap.size, 3, none⟩ (.slice A3 x.cap.length d3)).cell? ⟨w.heap.size + 1, 4, none⟩ = some (.bool false) := cell_at ((Below.heap_setCell _ _ _ _ (by simp)).trans p3) rfl
  have fu_4 : (w3.setCell ⟨w.heap.size, 3, none⟩ (.slice A3 x.cap.length d3)).frozen? ⟨w.heap.size + 1, 4, none⟩ = false := frozen_at ((Below.heap_setCell _ _ _ _ (by simp)).trans p3)
  have y_0 : (w3.setCell ⟨w.heap.size, 3, none⟩ (.slice A3 x.cap.length d3)).heap[w.heap.size + 1]? = some (.cells #[.string ⟨#[]⟩, .slice none 0 0, .slice none 0 0, .slice none 0 0, .bool false] 35) := (Below.heap_setCell _ _ _ _ (by simp)).trans p3
  have k_0 : Below w.heap.size w (w3.setCell ⟨w.heap.size, 3, none⟩ (.slice A3 x.cap.length d3)) := g3
  have y_1 : ((w3.setCell ⟨w.heap.size, 3, none⟩ (.slice A3 x.cap.length d3)).setCell ⟨w.heap.size + 1, 0, none⟩ (.string x.name)).heap[w.heap.size + 1]? = some (.cells #[.string x.name, .slice none 0 0, .slice none 0 0, .slice none 0 0, .bool false] 35) := heap_setCell_at y_0
  have k_1 : Below w.heap.size w ((w3.setCell ⟨w.heap.size, 3, none⟩ (.slice A3 x.cap.length d3)).setCell ⟨w.heap.size + 1, 0, none⟩ (.string x.name)) := Below.setCell k_0 (by simp) _
  have y_2 : (((w3.setCell ⟨w.heap.size, 3, none⟩ (.slice A3 x.cap.length d3)).setCell ⟨w.heap.size + 1, 0, none⟩ (.string x.name)).setCell ⟨w.heap.size + 1, 1, none⟩ (.slice A1 x.labels.length d1)).heap[w.heap.size + 1]? = some (.cells #[.string x.name, .slice A1 x.labels.length d1, .slice none 0 0, .slice none 0 0, .bool false] 35) := heap_setCell_at y_1
  have k_2 : Below w.heap.size w (((w3.setCell ⟨w.heap.size, 3, none⟩ (.slice A3 x.cap.length d3)).setCell ⟨w.heap.size + 1, 0, none⟩ (.string x.name)).setCell ⟨w.heap.size + 1, 1, none⟩ (.slice A1 x.labels.length d1)) := Below.setCell k_1 (by simp) _
  have y_3 : ((((w3.setCell ⟨w.heap.size, 3, none⟩ (.slice A3 x.cap.length d3)).setCell ⟨w.heap.size + 1, 0, none⟩ (.string x.name)).setCell ⟨w.heap.size + 1, 1, none⟩ (.slice A1 x.labels.length d1)).setCell ⟨w.heap.size + 1, 2, none⟩ (.slice A2 x.taints.length d2)).heap[w.heap.size + 1]? = some (.cells #[.string x.name, .slice A1 x.labels.length d1, .slice A2 x.taints.length d2, .slice none 0 0, .bool false] 35) := heap_setCell_at y_2
  have k_3 : Below w.heap.size w ((((w3.setCell ⟨w.heap.size, 3, none⟩ (.slice A3 x.cap.length d3)).setCell ⟨w.heap.size + 1, 0, none⟩ (.string x.name)).setCell ⟨w.heap.size + 1, 1, none⟩ (.slice A1 x.labels.length d1)).setCell ⟨w.heap.size + 1, 2, none⟩ (.slice A2 x.taints.length d2)) := Below.setCell k_2 (by simp) _
  have y_4 : (((((w3.setCell ⟨w.heap.size, 3, none⟩ (.slice A3 x.cap.length d3)).setCell ⟨w.heap.size + 1, 0, none⟩ (.string x.name)).setCell ⟨w.heap.size + 1, 1, none⟩ (.slice A1 x.labels.length d1)).setCell ⟨w.heap.size + 1, 2, none⟩ (.slice A2 x.taints.length d2)).setCell ⟨w.heap.size + 1, 3, none⟩ (.slice A3 x.cap.length d3)).heap[w.heap.size + 1]? = some (.cells #[.string x.name, .slice A1 x.labels.length d1, .slice A2 x.taints.length d2, .slice A3 x.cap.length d3, .bool false] 35) := heap_setCell_at y_3
  have k_4 : Below w.heap.size w (((((w3.setCell ⟨w.heap.size, 3, none⟩ (.slice A3 x.cap.length d3)).setCell ⟨w.heap.size + 1, 0, none⟩ (.string x.name)).setCell ⟨w.heap.size + 1, 1, none⟩ (.slice A1 x.labels.length d1)).setCell ⟨w.heap.size + 1, 2, none⟩ (.slice A2 x.taints.length d2)).setCell ⟨w.heap.size + 1, 3, none⟩ (.slice A3 x.cap.length d3)) := Below.setCell k_3 (by simp) _
  have y_5 : ((((((w3.setCell ⟨w.heap.size, 3, none⟩ (.slice A3 x.cap.length d3)).setCell ⟨w.heap.size + 1, 0, none⟩ (.string x.name)).setCell ⟨w.heap.size + 1, 1, none⟩ (.slice A1 x.labels.length d1)).setCell ⟨w.heap.size + 1, 2, none⟩ (.slice A2 x.taints.length d2)).setCell ⟨w.heap.size + 1, 3, none⟩ (.slice A3 x.cap.length d3)).setCell ⟨w.heap.size + 1, 4, none⟩ (.bool x.cord)).heap[w.heap.size + 1]? = some (.cells #[.string x.name, .slice A1 x.labels.length d1, .slice A2 x.taints.length d2, .slice A3 x.cap.length d3, .bool x.cord] 35) := heap_setCell_at y_4
  have k_5 : Below w.heap.size w ((((((w3.setCell ⟨w.heap.size, 3, none⟩ (.slice A3 x.cap.length d3)).setCell ⟨w.heap.size + 1, 0, none⟩ (.string x.name)).setCell ⟨w.heap.size + 1, 1, none⟩ (.slice A1 x.labels.length d1)).setCell ⟨w.heap.size + 1, 2, none⟩ (.slice A2 x.taints.length d2)).setCell ⟨w.heap.size + 1, 3, none⟩ (.slice A3 x.cap.length d3)).setCell ⟨w.heap.size + 1, 4, none⟩ (.bool x.cord)) := Below.setCell k_4 (by simp) _
  have x_0 : ((((((w3.setCell ⟨w.heap.size, 3, none⟩ (.slice A3 x.cap.length d3)).setCell ⟨w.heap.size + 1, 0, none⟩ (.string x.name)).setCell ⟨w.heap.size + 1, 1, none⟩ (.slice A1 x.labels.length d1)).setCell ⟨w.heap.size + 1, 2, none⟩ (.slice A2 x.taints.length d2)).setCell ⟨w.heap.size + 1, 3, none⟩ (.slice A3 x.cap.length d3)).setCell ⟨w.heap.size + 1, 4, none⟩ (.bool x.cord)).cell? ⟨w.heap.size + 1, 0, none⟩ = some (.string x.name) := cell_at y_5 rfl
  have x_1 : ((((((w3.setCell ⟨w.heap.size, 3, none⟩ (.slice A3 x.cap.length d3)).setCell ⟨w.heap.size + 1, 0, none⟩ (.string x.name)).setCell ⟨w.heap.size + 1, 1, none⟩ (.slice A1 x.labels.length d1)).setCell ⟨w.heap.size + 1, 2, none⟩ (.slice A2 x.taints.length d2)).setCell ⟨w.heap.size + 1, 3, none⟩ (.slice A3 x.cap.length d3)).setCell ⟨w.heap.size + 1, 4, none⟩ (.bool x.cord)).cell? ⟨w.heap.size + 1, 1, none⟩ = some (.slice A1 x.labels.length d1) := cell_at y_5 rfl
  have x_2 : ((((((w3.setCell ⟨w.heap.size, 3, none⟩ (.slice A3 x.cap.length d3)).setCell ⟨w.heap.size + 1, 0, none⟩ (.string x.name)).setCell ⟨w.heap.size + 1, 1, none⟩ (.slice A1 x.labels.length d1)).setCell ⟨w.heap.size + 1, 2, none⟩ (.slice A2 x.taints.length d2)).setCell ⟨w.heap.size + 1, 3, none⟩ (.slice A3 x.cap.length d3)).setCell ⟨w.heap.size + 1, 4, none⟩ (.bool x.cord)).cell? ⟨w.heap.size + 1, 2, none⟩ = some (.slice A2 x.taints.length d2) := cell_at y_5 rfl
  have x_3 : ((((((w3.setCell ⟨w.heap.size, 3, none⟩ (.slice A3 x.cap.length d3)).setCell ⟨w.heap.size + 1, 0, none⟩ (.string x.name)).setCell ⟨w.heap.size + 1, 1, none⟩ (.slice A1 x.labels.length d1)).setCell ⟨w.heap.size + 1, 2, none⟩ (.slice A2 x.taints.length d2)).setCell ⟨w.heap.size + 1, 3, none⟩ (.slice A3 x.cap.length d3)).setCell ⟨w.heap.size + 1, 4, none⟩ (.bool x.cord)).cell? ⟨w.heap.size + 1, 3, none⟩ = some (.slice A3 x.cap.length d3) := cell_at y_5 rfl
  have x_4 : ((((((w3.setCell ⟨w.heap.size, 3, none⟩ (.slice A3 x.cap.length d3)).setCell ⟨w.heap.size + 1, 0, none⟩ (.string x.name)).setCell ⟨w.heap.size + 1, 1, none⟩ (.slice A1 x.labels.length d1)).setCell ⟨w.heap.size + 1, 2, none⟩ (.slice A2 x.taints.length d2)).setCell ⟨w.heap.size + 1, 3, none⟩ (.slice A3 x.cap.length d3)).setCell ⟨w.heap.size + 1, 4, none⟩ (.bool x.cord)).cell? ⟨w.heap.size + 1, 4, none⟩ = some (.bool x.cord) := cell_at y_5 rfl
  have gf := k_5
  clear y_0 y_1 y_2 y_3 y_4 y_5
  have hz1 := hv1.move labOk (w' := ((((((w3.setCell ⟨w.heap.size, 3, none⟩ (.slice A3 x.cap.length d3)).setCell ⟨w.heap.size + 1, 0, none⟩ (.string x.name)).setCell ⟨w.heap.size + 1, 1, none⟩ (.slice A1 x.labels.length d1)).setCell ⟨w.heap.size + 1, 2, none⟩ (.slice A2 x.taints.length d2)).setCell ⟨w.heap.size + 1, 3, none⟩ (.slice A3 x.cap.length d3)).setCell ⟨w.heap.size + 1, 4, none⟩ (.bool x.cord))) (fun j hj => by have h1 := hj.1; rw [Below.heap_setCell _ _ _ _ (by simp; omega), Below.heap_setCell _ _ _ _ (by simp; omega), Below.heap_setCell _ _ _ _ (by simp; omega), Below.heap_setCell _ _ _ _ (by simp; omega), Below.heap_setCell _ _ _ _ (by simp; omega), Below.heap_setCell _ _ _ _ (by simp; omega)])
  have hz2 := hv2.move tntOk (w' := ((((((w3.setCell ⟨w.heap.size, 3, none⟩ (.slice A3 x.cap.length d3)).setCell ⟨w.heap.size + 1, 0, none⟩ (.string x.name)).setCell ⟨w.heap.size + 1, 1, none⟩ (.slice A1 x.labels.length d1)).setCell ⟨w.heap.size + 1, 2, none⟩ (.slice A2 x.taints.length d2)).setCell ⟨w.heap.size + 1, 3, none⟩ (.slice A3 x.cap.length d3)).setCell ⟨w.heap.size + 1, 4, none⟩ (.bool x.cord))) (fun j hj => by have h1 := hj.1; rw [Below.heap_setCell _ _ _ _ (by simp; omega), Below.heap_setCell _ _ _ _ (by simp; omega), Below.heap_setCell _ _ _ _ (by simp; omega), Below.heap_setCell _ _ _ _ (by simp; omega), Below.heap_setCell _ _ _ _ (by simp; omega), Below.heap_setCell _ _ _ _ (by simp; omega)])
  have hz3 := hv3.move itmOk (w' := ((((((w3.setCell ⟨w.heap.size, 3, none⟩ (.slice A3 x.cap.length d3)).setCell ⟨w.heap.size + 1, 0, none⟩ (.string x.name)).setCell ⟨w.heap.size + 1, 1, none⟩ (.slice A1 x.labels.length d1)).setCell ⟨w.heap.size + 1, 2, none⟩ (.slice A2 x.taints.length d2)).setCell ⟨w.heap.size + 1, 3, none⟩ (.slice A3 x.cap.length d3)).setCell ⟨w.heap.size + 1, 4, none⟩ (.bool x.cord))) (fun j hj => by have h1 := hj.1; rw [Below.heap_setCell _ _ _ _ (by simp; omega), Below.heap_setCell _ _ _ _ (by simp; omega), Below.heap_setCell _ _ _ _ (by simp; omega), Below.heap_setCell _ _ _ _ (by simp; omega), Below.heap_setCell _ _ _ _ (by simp; omega), Below.heap_setCell _ _ _ _ (by simp; omega)])
  have hv2 := HR.out _ _ gf ⟨_, _, _, rfl, hz1.mono labOk (fun j hj => by have := hj.1; show w.heap.size ≤ j; omega), hz2.mono tntOk (fun j hj => by have := hj.1; show w.heap.size ≤ j; omega), hz3.mono itmOk (fun j hj => by have := hj.1; show w.heap.size ≤ j; omega)⟩
  go_wp2_with fail
  refine bodyPost_ret ?_ rfl hv2
  simp [results, Tryz.results31, go_sem, x_0, x_1, x_2, x_3, x_4]

set_option maxRecDepth 100000 in
set_option maxHeartbeats 40000000 in
theorem copyPod_k (R : Ending → World → Prop) (w : World) (ok : Nat → Prop) (x : Pd) (cs : List Value) (hok : ∀ k, ok k → k < w.heap.size) (hx : pdK w ok x cs) (hs : PdShort x)
    (hR : ∀ cs' w', Below w.heap.size w w' → pdK w' (fun k => w.heap.size ≤ k) x cs' → R (.returned (.agg cs'.toArray)) w') :
    Calls Tryz.prog 36 #[.agg cs.toArray] w R := by
  obtain ⟨vl, vn, vt, va, vp, rfl, hl, hn, ht, ha, hp⟩ := hx
  obtain ⟨s1, s2, s3, s4, s5⟩ := hs
  have HR := Lib.hid hR
  clear hR
  have hB : ∀ o1 o2 : Obj, Below w.heap.size w ((w.alloc o1).alloc o2) := fun o1 o2 => Below.alloc (Below.alloc (Below.refl _ _) (Nat.le_refl _) _) (by simp) _
  have HB := Lib.hid hB
  clear hB
  go_enter Tryz.func36, Tryz.ntmps36
  go_wp2_with (at_builtin; refine append_copy_k labOk rfl _ _ 31 108 (.agg #[.string ⟨#[]⟩, .string ⟨#[]⟩]) 32 ok (fun _ _ _ _ _ h => h) rfl Tryz.underlying31 infoLab rfl (by decide) (by decide) (w.heap.size + 1 + 1) _ x.labels rfl rfl (fun _ _ _ _ h => one_lab h) ?c1 (hl.below labOk (HB.out _ _) hok) ?c2 ?c3 ?_)
  case c1 => intro k hk; have := hok k hk; simp; omega
  case c2 => simp
  case c3 => omega
  intro v1 w1 hv1 hB1
  try simp only [World.size_alloc] at hv1 hB1
  have z1 : w.heap.size + 2 ≤ w1.heap.size := by have := hB1.size; simp at this; omega
  have t1 : Below w.heap.size w w1 := (HB.out _ _).trans (hB1.mono (by omega))
  have o1 : w1.heap[w.heap.size]? = some (.cells #[.string x.name, vl, vn, vt, .string x.req, va, vp, .int .i64 x.prio] 40) := (hB1.block _ (by omega)).trans ((Below.heap_alloc _ _ _ (by simp)).trans (heap_alloc_new w _))
  have p1 : w1.heap[w.heap.size + 1]? = some (.cells #[.string ⟨#[]⟩, .slice none 0 0, .slice none 0 0, .slice none 0 0, .string ⟨#[]⟩, .slice none 0 0, .slice none 0 0, .int .i64 0] 40) := (hB1.block _ (by omega)).trans (by simpa using heap_alloc_new (w.alloc (.cells #[.string x.name, vl, vn, vt, .string x.req, va, vp, .int .i64 x.prio] 40)) _)
  have hv1 := hv1.bnd labOk
  obtain ⟨A1, d1, e1, -, -⟩ := hv1.form
  subst e1
  clear hB1
  have c1_0 : w1.cell? ⟨w.heap.size, 0, none⟩ = some (.string x.name) := cell_at o1 rfl
  have c1_1 : w1.cell? ⟨w.heap.size, 1, none⟩ = some (vl) := cell_at o1 rfl
  have c1_2 : w1.cell? ⟨w.heap.size, 2, none⟩ = some (vn) := cell_at o1 rfl
  have c1_3 : w1.cell? ⟨w.heap.size, 3, none⟩ = some (vt) := cell_at o1 rfl
  have c1_4 : w1.cell? ⟨w.heap.size, 4, none⟩ = some (.string x.req) := cell_at o1 rfl
  have c1_5 : w1.cell? ⟨w.heap.size, 5, none⟩ = some (va) := cell_at o1 rfl
  have c1_6 : w1.cell? ⟨w.heap.size, 6, none⟩ = some (vp) := cell_at o1 rfl
  have c1_7 : w1.cell? ⟨w.heap.size, 7, none⟩ = some (.int .i64 x.prio) := cell_at o1 rfl
  have f1 : w1.frozen? ⟨w.heap.size, 1, none⟩ = false := frozen_at o1
  have r1 : ∀ o : Obj, ((w1.setCell ⟨w.heap.size, 1, none⟩ (.slice A1 x.labels.length d1)).alloc o).cell? ⟨w.heap.size, 2, none⟩ = some (vn) := fun o => cell_old (cell_at (heap_setCell_at o1) rfl) o
  have g1 : Below w.heap.size w (w1.setCell ⟨w.heap.size, 1, none⟩ (.slice A1 x.labels.length d1)) := Below.setCell t1 (Nat.le_refl _) _
  go_wp2_with (at_builtin; refine append_copy_k itmOk rfl _ _ 33 185 (.agg #[.string ⟨#[]⟩, .int .i64 0]) 24 ok (fun _ _ _ _ _ h => h) rfl Tryz.underlying33 infoItm rfl (by decide) (by decide) (w1.heap.size) _ x.needs rfl rfl (fun _ _ _ _ h => one_itm h) ?c1 (hn.below itmOk g1 hok) ?c2 ?c3 ?_)
  case c1 => intro k hk; have := hok k hk; simp; omega
  case c2 => simp
  case c3 => omega
  intro v2 w2 hv2 hB2
  try simp only [World.size_setCell] at hv2 hB2
  have y2 : w1.heap.size ≤ w2.heap.size := by simpa using hB2.size
  have z2 : w.heap.size + 2 ≤ w2.heap.size := by omega
  have t2 : Below w.heap.size w w2 := g1.trans (hB2.mono (by omega))
  have o2 : w2.heap[w.heap.size]? = some (.cells #[.string x.name, .slice A1 x.labels.length d1, vn, vt, .string x.req, va, vp, .int .i64 x.prio] 40) := (hB2.block _ (by omega)).trans ((heap_setCell_at o1).trans rfl)
  have p2 : w2.heap[w.heap.size + 1]? = some (.cells #[.string ⟨#[]⟩, .slice none 0 0, .slice none 0 0, .slice none 0 0, .string ⟨#[]⟩, .slice none 0 0, .slice none 0 0, .int .i64 0] 40) := (hB2.block _ (by omega)).trans ((Below.heap_setCell _ _ _ _ (by simp)).trans p1)
  have hv1 := hv1.move labOk (w' := w2) (fun j hj => (hB2.block j (by have := hj.2; omega)).trans (Below.heap_setCell _ _ _ _ (by have := hj.1; simp; omega)))
  have hv2 := hv2.bnd itmOk
  obtain ⟨A2, d2, e2, -, -⟩ := hv2.form
  subst e2
  clear hB2
  clear c1_0 c1_1 c1_2 c1_3 c1_4 c1_5 c1_6 c1_7 f1 r1 g1 o1 p1 t1
  have c2_0 : w2.cell? ⟨w.heap.size, 0, none⟩ = some (.string x.name) := cell_at o2 rfl
  have c2_1 : w2.cell? ⟨w.heap.size, 1, none⟩ = some (.slice A1 x.labels.length d1) := cell_at o2 rfl
  have c2_2 : w2.cell? ⟨w.heap.size, 2, none⟩ = some (vn) := cell_at o2 rfl
  have c2_3 : w2.cell? ⟨w.heap.size, 3, none⟩ = some (vt) := cell_at o2 rfl
  have c2_4 : w2.cell? ⟨w.heap.size, 4, none⟩ = some (.string x.req) := cell_at o2 rfl
  have c2_5 : w2.cell? ⟨w.heap.size, 5, none⟩ = some (va) := cell_at o2 rfl
  have c2_6 : w2.cell? ⟨w.heap.size, 6, none⟩ = some (vp) := cell_at o2 rfl
  have c2_7 : w2.cell? ⟨w.heap.size, 7, none⟩ = some (.int .i64 x.prio) := cell_at o2 rfl
  have f2 : w2.frozen? ⟨w.heap.size, 2, none⟩ = false := frozen_at o2
  have r2 : ∀ o : Obj, ((w2.setCell ⟨w.heap.size, 2, none⟩ (.slice A2 x.needs.length d2)).alloc o).cell? ⟨w.heap.size, 3, none⟩ = some (vt) := fun o => cell_old (cell_at (heap_setCell_at o2) rfl) o
  have g2 : Below w.heap.size w (w2.setCell ⟨w.heap.size, 2, none⟩ (.slice A2 x.needs.length d2)) := Below.setCell t2 (Nat.le_refl _) _
  go_wp2_with (at_builtin; refine append_copy_k tolOk rfl _ _ 36 224 (.agg #[.string ⟨#[]⟩, .string ⟨#[]⟩, .string ⟨#[]⟩, .string ⟨#[]⟩]) 64 ok (fun _ _ _ _ _ h => h) rfl Tryz.underlying36 infoTol rfl (by decide) (by decide) (w2.heap.size) _ x.tols rfl rfl (fun _ _ _ _ h => one_tol h) ?c1 (ht.below tolOk g2 hok) ?c2 ?c3 ?_)
  case c1 => intro k hk; have := hok k hk; simp; omega
  case c2 => simp
  case c3 => omega
  intro v3 w3 hv3 hB3
  try simp only [World.size_setCell] at hv3 hB3
  have y3 : w2.heap.size ≤ w3.heap.size := by simpa using hB3.size
  have z3 : w.heap.size + 2 ≤ w3.heap.size := by omega
  have t3 : Below w.heap.size w w3 := g2.trans (hB3.mono (by omega))
  have o3 : w3.heap[w.heap.size]? = some (.cells #[.string x.name, .slice A1 x.labels.length d1, .slice A2 x.needs.length d2, vt, .string x.req, va, vp, .int .i64 x.prio] 40) := (hB3.block _ (by omega)).trans ((heap_setCell_at o2).trans rfl)
  have p3 : w3.heap[w.heap.size + 1]? = some (.cells #[.string ⟨#[]⟩, .slice none 0 0, .slice none 0 0, .slice none 0 0, .string ⟨#[]⟩, .slice none 0 0, .slice none 0 0, .int .i64 0] 40) := (hB3.block _ (by omega)).trans ((Below.heap_setCell _ _ _ _ (by simp)).trans p2)
  have hv1 := hv1.move labOk (w' := w3) (fun j hj => (hB3.block j (by have := hj.2; omega)).trans (Below.heap_setCell _ _ _ _ (by have := hj.1; simp; omega)))
  have hv2 := hv2.move itmOk (w' := w3) (fun j hj => (hB3.block j (by have := hj.2; omega)).trans (Below.heap_setCell _ _ _ _ (by have := hj.1; simp; omega)))
  have hv3 := hv3.bnd tolOk
  obtain ⟨A3, d3, e3, -, -⟩ := hv3.form
  subst e3
  clear hB3
  clear c2_0 c2_1 c2_2 c2_3 c2_4 c2_5 c2_6 c2_7 f2 r2 g2 o2 p2 t2
  have c3_0 : w3.cell? ⟨w.heap.size, 0, none⟩ = some (.string x.name) := cell_at o3 rfl
  have c3_1 : w3.cell? ⟨w.heap.size, 1, none⟩ = some (.slice A1 x.labels.length d1) := cell_at o3 rfl
  have c3_2 : w3.cell? ⟨w.heap.size, 2, none⟩ = some (.slice A2 x.needs.length d2) := cell_at o3 rfl
  have c3_3 : w3.cell? ⟨w.heap.size, 3, none⟩ = some (vt) := cell_at o3 rfl
  have c3_4 : w3.cell? ⟨w.heap.size, 4, none⟩ = some (.string x.req) := cell_at o3 rfl
  have c3_5 : w3.cell? ⟨w.heap.size, 5, none⟩ = some (va) := cell_at o3 rfl
  have c3_6 : w3.cell? ⟨w.heap.size, 6, none⟩ = some (vp) := cell_at o3 rfl
  have c3_7 : w3.cell? ⟨w.heap.size, 7, none⟩ = some (.int .i64 x.prio) := cell_at o3 rfl
  have f3 : w3.frozen? ⟨w.heap.size, 3, none⟩ = false := frozen_at o3
  have r3 : ∀ o : Obj, ((w3.setCell ⟨w.heap.size, 3, none⟩ (.slice A3 x.tols.length d3)).alloc o).cell? ⟨w.heap.size, 5, none⟩ = some (va) := fun o => cell_old (cell_at (heap_setCell_at o3) rfl) o
  have g3 : Below w.heap.size w (w3.setCell ⟨w.heap.size, 3, none⟩ (.slice A3 x.tols.length d3)) := Below.setCell t3 (Nat.le_refl _) _
  go_wp2_with (at_builtin; refine append_copy_k aptOk rfl _ _ 37 215 (.agg #[.string ⟨#[]⟩, .string ⟨#[]⟩]) 32 ok (fun _ _ _ _ _ h => h) rfl Tryz.underlying37 infoApt rfl (by decide) (by decide) (w3.heap.size) _ x.apart rfl rfl (fun _ _ _ _ h => one_apt h) ?c1 (ha.below aptOk g3 hok) ?c2 ?c3 ?_)
  case c1 => intro k hk; have := hok k hk; simp; omega
  case c2 => simp
  case c3 => omega
  intro v4 w4 hv4 hB4
  try simp only [World.size_setCell] at hv4 hB4
  have y4 : w3.heap.size ≤ w4.heap.size := by simpa using hB4.size
  have z4 : w.heap.size + 2 ≤ w4.heap.size := by omega
  have t4 : Below w.heap.size w w4 := g3.trans (hB4.mono (by omega))
  have o4 : w4.heap[w.heap.size]? = some (.cells #[.string x.name, .slice A1 x.labels.length d1, .slice A2 x.needs.length d2, .slice A3 x.tols.length d3, .string x.req, va, vp, .int .i64 x.prio] 40) := (hB4.block _ (by omega)).trans ((heap_setCell_at o3).trans rfl)
  have p4 : w4.heap[w.heap.size + 1]? = some (.cells #[.string ⟨#[]⟩, .slice none 0 0, .slice none 0 0, .slice none 0 0, .string ⟨#[]⟩, .slice none 0 0, .slice none 0 0, .int .i64 0] 40) := (hB4.block _ (by omega)).trans ((Below.heap_setCell _ _ _ _ (by simp)).trans p3)
  have hv1 := hv1.move labOk (w' := w4) (fun j hj => (hB4.block j (by have := hj.2; omega)).trans (Below.heap_setCell _ _ _ _ (by have := hj.1; simp; omega)))
  have hv2 := hv2.move itmOk (w' := w4) (fun j hj => (hB4.block j (by have := hj.2; omega)).trans (Below.heap_setCell _ _ _ _ (by have := hj.1; simp; omega)))
  have hv3 := hv3.move tolOk (w' := w4) (fun j hj => (hB4.block j (by have := hj.2; omega)).trans (Below.heap_setCell _ _ _ _ (by have := hj.1; simp; omega)))
  have hv4 := hv4.bnd aptOk
  obtain ⟨A4, d4, e4, -, -⟩ := hv4.form
  subst e4
  clear hB4
  clear c3_0 c3_1 c3_2 c3_3 c3_4 c3_5 c3_6 c3_7 f3 r3 g3 o3 p3 t3
  have c4_0 : w4.cell? ⟨w.heap.size, 0, none⟩ = some (.string x.name) := cell_at o4 rfl
  have c4_1 : w4.cell? ⟨w.heap.size, 1, none⟩ = some (.slice A1 x.labels.length d1) := cell_at o4 rfl
  have c4_2 : w4.cell? ⟨w.heap.size, 2, none⟩ = some (.slice A2 x.needs.length d2) := cell_at o4 rfl
  have c4_3 : w4.cell? ⟨w.heap.size, 3, none⟩ = some (.slice A3 x.tols.length d3) := cell_at o4 rfl
  have c4_4 : w4.cell? ⟨w.heap.size, 4, none⟩ = some (.string x.req) := cell_at o4 rfl
  have c4_5 : w4.cell? ⟨w.heap.size, 5, none⟩ = some (va) := cell_at o4 rfl
  have c4_6 : w4.cell? ⟨w.heap.size, 6, none⟩ = some (vp) := cell_at o4 rfl
  have c4_7 : w4.cell? ⟨w.heap.size, 7, none⟩ = some (.int .i64 x.prio) := cell_at o4 rfl
  have f4 : w4.frozen? ⟨w.heap.size, 5, none⟩ = false := frozen_at o4
  have r4 : ∀ o : Obj, ((w4.setCell ⟨w.heap.size, 5, none⟩ (.slice A4 x.apart.length d4)).alloc o).cell? ⟨w.heap.size, 6, none⟩ = some (vp) := fun o => cell_old (cell_at (heap_setCell_at o4) rfl) o
  have g4 : Below w.heap.size w (w4.setCell ⟨w.heap.size, 5, none⟩ (.slice A4 x.apart.length d4)) := Below.setCell t4 (Nat.le_refl _) _
  go_wp2_with (at_builtin; refine append_copy_k prfOk rfl _ _ 38 217 (.agg #[.int .i64 0, .string ⟨#[]⟩]) 24 ok (fun _ _ _ _ _ h => h) rfl Tryz.underlying38 infoPrf rfl (by decide) (by decide) (w4.heap.size) _ x.prefer rfl rfl (fun _ _ _ _ h => one_prf h) ?c1 (hp.below prfOk g4 hok) ?c2 ?c3 ?_)
  case c1 => intro k hk; have := hok k hk; simp; omega
  case c2 => simp
  case c3 => omega
  intro v5 w5 hv5 hB5
  try simp only [World.size_setCell] at hv5 hB5
  have y5 : w4.heap.size ≤ w5.heap.size := by simpa using hB5.size
  have z5 : w.heap.size + 2 ≤ w5.heap.size := by omega
  have t5 : Below w.heap.size w w5 := g4.trans (hB5.mono (by omega))
  have o5 : w5.heap[w.heap.size]? = some (.cells #[.string x.name, .slice A1 x.labels.length d1, .slice A2 x.needs.length d2, .slice A3 x.tols.length d3, .string x.req, .slice A4 x.apart.length d4, vp, .int .i64 x.prio] 40) := (hB5.block _ (by omega)).trans ((heap_setCell_at o4).trans rfl)
  have p5 : w5.heap[w.heap.size + 1]? = some (.cells #[.string ⟨#[]⟩, .slice none 0 0, .slice none 0 0, .slice none 0 0, .string ⟨#[]⟩, .slice none 0 0, .slice none 0 0, .int .i64 0] 40) := (hB5.block _ (by omega)).trans ((Below.heap_setCell _ _ _ _ (by simp)).trans p4)
  have hv1 := hv1.move labOk (w' := w5) (fun j hj => (hB5.block j (by have := hj.2; omega)).trans (Below.heap_setCell _ _ _ _ (by have := hj.1; simp; omega)))
  have hv2 := hv2.move itmOk (w' := w5) (fun j hj => (hB5.block j (by have := hj.2; omega)).trans (Below.heap_setCell _ _ _ _ (by have := hj.1; simp; omega)))
  have hv3 := hv3.move tolOk (w' := w5) (fun j hj => (hB5.block j (by have := hj.2; omega)).trans (Below.heap_setCell _ _ _ _ (by have := hj.1; simp; omega)))
  have hv4 := hv4.move aptOk (w' := w5) (fun j hj => (hB5.block j (by have := hj.2; omega)).trans (Below.heap_setCell _ _ _ _ (by have := hj.1; simp; omega)))
  have hv5 := hv5.bnd prfOk
  obtain ⟨A5, d5, e5, -, -⟩ := hv5.form
  subst e5
  clear hB5
  clear c4_0 c4_1 c4_2 c4_3 c4_4 c4_5 c4_6 c4_7 f4 r4 g4 o4 p4 t4
  have c5_0 : w5.cell? ⟨w.heap.size, 0, none⟩ = some (.string x.name) := cell_at o5 rfl
  have c5_1 : w5.cell? ⟨w.heap.size, 1, none⟩ = some (.slice A1 x.labels.length d1) := cell_at o5 rfl
  have c5_2 : w5.cell? ⟨w.heap.size, 2, none⟩ = some (.slice A2 x.needs.length d2) := cell_at o5 rfl
  have c5_3 : w5.cell? ⟨w.heap.size, 3, none⟩ = some (.slice A3 x.tols.length d3) := cell_at o5 rfl
  have c5_4 : w5.cell? ⟨w.heap.size, 4, none⟩ = some (.string x.req) := cell_at o5 rfl
  have c5_5 : w5.cell? ⟨w.heap.size, 5, none⟩ = some (.slice A4 x.apart.length d4) := cell_at o5 rfl
  have c5_6 : w5.cell? ⟨w.heap.size, 6, none⟩ = some (vp) := cell_at o5 rfl
  have c5_7 : w5.cell? ⟨w.heap.size, 7, none⟩ = some (.int .i64 x.prio) := cell_at o5 rfl
  have f5 : w5.frozen? ⟨w.heap.size, 6, none⟩ = false := frozen_at o5
  have g5 : Below w.heap.size w (w5.setCell ⟨w.heap.size, 6, none⟩ (.slice A5 x.prefer.length d5)) := Below.setCell t5 (Nat.le_refl _) _
  have q_0 : (w5.setCell ⟨w.heap.size, 6, none⟩ (.slice A5 x.prefer.length d5)).cell? ⟨w.heap.size, 0, none⟩ = some (.string x.name) := cell_at (heap_setCell_at o5) rfl
  have q_1 : (w5.setCell ⟨w.heap.size, 6, none⟩ (.slice A5 x.prefer.length d5)).cell? ⟨w.heap.size, 1, none⟩ = some (.slice A1 x.labels.length d1) := cell_at (heap_setCell_at o5) rfl
  have q_2 : (w5.setCell ⟨w.heap.size, 6, none⟩ (.slice A5 x.prefer.length d5)).cell? ⟨w.heap.size, 2, none⟩ = some (.slice A2 x.needs.length d2) := cell_at (heap_setCell_at o5) rfl
  have q_3 : (w5.setCell ⟨w.heap.size, 6, none⟩ (.slice A5 x.prefer.length d5)).cell? ⟨w.heap.size, 3, none⟩ = some (.slice A3 x.tols.length d3) := cell_at (heap_setCell_at o5) rfl
  have q_4 : (w5.setCell ⟨w.heap.size, 6, none⟩ (.slice A5 x.prefer.length d5)).cell? ⟨w.heap.size, 4, none⟩ = some (.string x.req) := cell_at (heap_setCell_at o5) rfl
  have q_5 : (w5.setCell ⟨w.heap.size, 6, none⟩ (.slice A5 x.prefer.length d5)).cell? ⟨w.heap.size, 5, none⟩ = some (.slice A4 x.apart.length d4) := cell_at (heap_setCell_at o5) rfl
  have q_6 : (w5.setCell ⟨w.heap.size, 6, none⟩ (.slice A5 x.prefer.length d5)).cell? ⟨w.heap.size, 6, none⟩ = some (.slice A5 x.prefer.length d5) := cell_at (heap_setCell_at o5) rfl
  have q_7 : (w5.setCell ⟨w.heap.size, 6, none⟩ (.slice A5 x.prefer.length d5)).cell? ⟨w.heap.size, 7, none⟩ = some (.int .i64 x.prio) := cell_at (heap_setCell_at o5) rfl
  have u_0 : (w5.setCell ⟨w.heap.size, 6, none⟩ (.slice A5 x.prefer.length d5)).cell? ⟨w.heap.size + 1, 0, none⟩ = some (.string ⟨#[]⟩) := cell_at ((Below.heap_setCell _ _ _ _ (by simp)).trans p5) rfl
  have fu_0 : (w5.setCell ⟨w.heap.size, 6, none⟩ (.slice A5 x.prefer.length d5)).frozen? ⟨w.heap.size + 1, 0, none⟩ = false := frozen_at ((Below.heap_setCell _ _ _ _ (by simp)).trans p5)
  have u_1 : (w5.setCell ⟨w.heap.size, 6, none⟩ (.slice A5 x.prefer.length d5)).cell? ⟨w.heap.size + 1, 1, none⟩ = some (.slice none 0 0) := cell_at ((Below.heap_setCell _ _ _ _ (by simp)).trans p5) rfl
  have fu_1 : (w5.setCell ⟨w.heap.size, 6, none⟩ (.slice A5 x.prefer.length d5)).frozen? ⟨w.heap.size + 1, 1, none⟩ = false := frozen_at ((Below.heap_setCell _ _ _ _ (by simp)).trans p5)
  have u_2 : (w5.setCell ⟨w.heap.size, 6, none⟩ (.slice A5 x.prefer.length d5)).cell? ⟨w.heap.size + 1, 2, none⟩ = some (.slice none 0 0) := cell_at ((Below.heap_setCell _ _ _ _ (by simp)).trans p5) rfl
  have fu_2 : (w5.setCell ⟨w.heap.size, 6, none⟩ (.slice A5 x.prefer.length d5)).frozen? ⟨w.heap.size + 1, 2, none⟩ = false := frozen_at ((Below.heap_setCell _ _ _ _ (by simp)).trans p5)
  have u_3 : (w5.setCell ⟨w.heap.size, 6, none⟩ (.slice A5 x.prefer.length d5)).cell? ⟨w.heap.size + 1, 3, none⟩ = some (.slice none 0 0) := cell_at ((Below.heap_setCell _ _ _ _ (by simp)).trans p5) rfl
  have fu_3 : (w5.setCell ⟨w.heap.size, 6, none⟩ (.slice A5 x.prefer.length d5)).frozen? ⟨w.heap.size + 1, 3, none⟩ = false := frozen_at ((Below.heap_setCell _ _ _ _ (by simp)).trans p5)
  have u_4 : (w5.setCell ⟨w.heap.size, 6, none⟩ (.slice A5 x.prefer.length d5)).cell? ⟨w.heap.size + 1, 4, none⟩ = some (.string ⟨#[]⟩) := cell_at ((Below.heap_setCell _ _ _ _ (by simp)).trans p5) rfl
  have fu_4 : (w5.setCell ⟨w.heap.size, 6, none⟩ (.slice A5 x.prefer.length d5)).frozen? ⟨w.heap.size + 1, 4, none⟩ = false := frozen_at ((Below.heap_setCell _ _ _ _ (by simp)).trans p5)
  have u_5 : (w5.setCell ⟨w.heap.size, 6, none⟩ (.slice A5 x.prefer.length d5)).cell? ⟨w.heap.size + 1, 5, none⟩ = some (.slice none 0 0) := cell_at ((Below.heap_setCell _ _ _ _ (by simp)).trans p5) rfl
  have fu_5 : (w5.setCell ⟨w.heap.size, 6, none⟩ (.slice A5 x.prefer.length d5)).frozen? ⟨w.heap.size + 1, 5, none⟩ = false := frozen_at ((Below.heap_setCell _ _ _ _ (by simp)).trans p5)
  have u_6 : (w5.setCell ⟨w.heap.size, 6, none⟩ (.slice A5 x.prefer.length d5)).cell? ⟨w.heap.size + 1, 6, none⟩ = some (.slice none 0 0) := cell_at ((Below.heap_setCell _ _ _ _ (by simp)).trans p5) rfl
  have fu_6 : (w5.setCell ⟨w.heap.size, 6, none⟩ (.slice A5 x.prefer.length d5)).frozen? ⟨w.heap.size + 1, 6, none⟩ = false := frozen_at ((Below.heap_setCell _ _ _ _ (by simp)).trans p5)
  have u_7 : (w5.setCell ⟨w.heap.size, 6, none⟩ (.slice A5 x.prefer.length d5)).cell? ⟨w.heap.size + 1, 7, none⟩ = some (.int .i64 0) := cell_at ((Below.heap_setCell _ _ _ _ (by simp)).trans p5) rfl
  have fu_7 : (w5.setCell ⟨w.heap.size, 6, none⟩ (.slice A5 x.prefer.length d5)).frozen? ⟨w.heap.size + 1, 7, none⟩ = false := frozen_at ((Below.heap_setCell _ _ _ _ (by simp)).trans p5)
  have y_0 : (w5.setCell ⟨w.heap.size, 6, none⟩ (.slice A5 x.prefer.length d5)).heap[w.heap.size + 1]? = some (.cells #[.string ⟨#[]⟩, .slice none 0 0, .slice none 0 0, .slice none 0 0, .string ⟨#[]⟩, .slice none 0 0, .slice none 0 0, .int .i64 0] 40) := (Below.heap_setCell _ _ _ _ (by simp)).trans p5
  have k_0 : Below w.heap.size w (w5.setCell ⟨w.heap.size, 6, none⟩ (.slice A5 x.prefer.length d5)) := g5
  have y_1 : ((w5.setCell ⟨w.heap.size, 6, none⟩ (.slice A5 x.prefer.length d5)).setCell ⟨w.heap.size + 1, 0, none⟩ (.string x.name)).heap[w.heap.size + 1]? = some (.cells #[.string x.name, .slice none 0 0, .slice none 0 0, .slice none 0 0, .string ⟨#[]⟩, .slice none 0 0, .slice none 0 0, .int .i64 0] 40) := heap_setCell_at y_0
  have k_1 : Below w.heap.size w ((w5.setCell ⟨w.heap.size, 6, none⟩ (.slice A5 x.prefer.length d5)).setCell ⟨w.heap.size + 1, 0, none⟩ (.string x.name)) := Below.setCell k_0 (by simp) _
  have y_2 : (((w5.setCell ⟨w.heap.size, 6, none⟩ (.slice A5 x.prefer.length d5)).setCell ⟨w.heap.size + 1, 0, none⟩ (.string x.name)).setCell ⟨w.heap.size + 1, 1, none⟩ (.slice A1 x.labels.length d1)).heap[w.heap.size + 1]? = some (.cells #[.string x.name, .slice A1 x.labels.length d1, .slice none 0 0, .slice none 0 0, .string ⟨#[]⟩, .slice none 0 0, .slice none 0 0, .int .i64 0] 40) := heap_setCell_at y_1
  have k_2 : Below w.heap.size w (((w5.setCell ⟨w.heap.size, 6, none⟩ (.slice A5 x.prefer.length d5)).setCell ⟨w.heap.size + 1, 0, none⟩ (.string x.name)).setCell ⟨w.heap.size + 1, 1, none⟩ (.slice A1 x.labels.length d1)) := Below.setCell k_1 (by simp) _
  have y_3 : ((((w5.setCell ⟨w.heap.size, 6, none⟩ (.slice A5 x.prefer.length d5)).setCell ⟨w.heap.size + 1, 0, none⟩ (.string x.name)).setCell ⟨w.heap.size + 1, 1, none⟩ (.slice A1 x.labels.length d1)).setCell ⟨w.heap.size + 1, 2, none⟩ (.slice A2 x.needs.length d2)).heap[w.heap.size + 1]? = some (.cells #[.string x.name, .slice A1 x.labels.length d1, .slice A2 x.needs.length d2, .slice none 0 0, .string ⟨#[]⟩, .slice none 0 0, .slice none 0 0, .int .i64 0] 40) := heap_setCell_at y_2
  have k_3 : Below w.heap.size w ((((w5.setCell ⟨w.heap.size, 6, none⟩ (.slice A5 x.prefer.length d5)).setCell ⟨w.heap.size + 1, 0, none⟩ (.string x.name)).setCell ⟨w.heap.size + 1, 1, none⟩ (.slice A1 x.labels.length d1)).setCell ⟨w.heap.size + 1, 2, none⟩ (.slice A2 x.needs.length d2)) := Below.setCell k_2 (by simp) _
  have y_4 : (((((w5.setCell ⟨w.heap.size, 6, none⟩ (.slice A5 x.prefer.length d5)).setCell ⟨w.heap.size + 1, 0, none⟩ (.string x.name)).setCell ⟨w.heap.size + 1, 1, none⟩ (.slice A1 x.labels.length d1)).setCell ⟨w.heap.size + 1, 2, none⟩ (.slice A2 x.needs.length d2)).setCell ⟨w.heap.size + 1, 3, none⟩ (.slice A3 x.tols.length d3)).heap[w.heap.size + 1]? = some (.cells #[.string x.name, .slice A1 x.labels.length d1, .slice A2 x.needs.length d2, .slice A3 x.tols.length d3, .string ⟨#[]⟩, .slice none 0 0, .slice none 0 0, .int .i64 0] 40) := heap_setCell_at y_3
  have k_4 : Below w.heap.size w (((((w5.setCell ⟨w.heap.size, 6, none⟩ (.slice A5 x.prefer.length d5)).setCell ⟨w.heap.size + 1, 0, none⟩ (.string x.name)).setCell ⟨w.heap.size + 1, 1, none⟩ (.slice A1 x.labels.length d1)).setCell ⟨w.heap.size + 1, 2, none⟩ (.slice A2 x.needs.length d2)).setCell ⟨w.heap.size + 1, 3, none⟩ (.slice A3 x.tols.length d3)) := Below.setCell k_3 (by simp) _
  have y_5 : ((((((w5.setCell ⟨w.heap.size, 6, none⟩ (.slice A5 x.prefer.length d5)).setCell ⟨w.heap.size + 1, 0, none⟩ (.string x.name)).setCell ⟨w.heap.size + 1, 1, none⟩ (.slice A1 x.labels.length d1)).setCell ⟨w.heap.size + 1, 2, none⟩ (.slice A2 x.needs.length d2)).setCell ⟨w.heap.size + 1, 3, none⟩ (.slice A3 x.tols.length d3)).setCell ⟨w.heap.size + 1, 4, none⟩ (.string x.req)).heap[w.heap.size + 1]? = some (.cells #[.string x.name, .slice A1 x.labels.length d1, .slice A2 x.needs.length d2, .slice A3 x.tols.length d3, .string x.req, .slice none 0 0, .slice none 0 0, .int .i64 0] 40) := heap_setCell_at y_4
  have k_5 : Below w.heap.size w ((((((w5.setCell ⟨w.heap.size, 6, none⟩ (.slice A5 x.prefer.length d5)).setCell ⟨w.heap.size + 1, 0, none⟩ (.string x.name)).setCell ⟨w.heap.size + 1, 1, none⟩ (.slice A1 x.labels.length d1)).setCell ⟨w.heap.size + 1, 2, none⟩ (.slice A2 x.needs.length d2)).setCell ⟨w.heap.size + 1, 3, none⟩ (.slice A3 x.tols.length d3)).setCell ⟨w.heap.size + 1, 4, none⟩ (.string x.req)) := Below.setCell k_4 (by simp) _
  have y_6 : (((((((w5.setCell ⟨w.heap.size, 6, none⟩ (.slice A5 x.prefer.length d5)).setCell ⟨w.heap.size + 1, 0, none⟩ (.string x.name)).setCell ⟨w.heap.size + 1, 1, none⟩ (.slice A1 x.labels.length d1)).setCell ⟨w.heap.size + 1, 2, none⟩ (.slice A2 x.needs.length d2)).setCell ⟨w.heap.size + 1, 3, none⟩ (.slice A3 x.tols.length d3)).setCell ⟨w.heap.size + 1, 4, none⟩ (.string x.req)).setCell ⟨w.heap.size + 1, 5, none⟩ (.slice A4 x.apart.length d4)).heap[w.heap.size + 1]? = some (.cells #[.string x.name, .slice A1 x.labels.length d1, .slice A2 x.needs.length d2, .slice A3 x.tols.length d3, .string x.req, .slice A4 x.apart.length d4, .slice none 0 0, .int .i64 0] 40) := heap_setCell_at y_5
  have k_6 : Below w.heap.size w (((((((w5.setCell ⟨w.heap.size, 6, none⟩ (.slice A5 x.prefer.length d5)).setCell ⟨w.heap.size + 1, 0, none⟩ (.string x.name)).setCell ⟨w.heap.size + 1, 1, none⟩ (.slice A1 x.labels.length d1)).setCell ⟨w.heap.size + 1, 2, none⟩ (.slice A2 x.needs.length d2)).setCell ⟨w.heap.size + 1, 3, none⟩ (.slice A3 x.tols.length d3)).setCell ⟨w.heap.size + 1, 4, none⟩ (.string x.req)).setCell ⟨w.heap.size + 1, 5, none⟩ (.slice A4 x.apart.length d4)) := Below.setCell k_5 (by simp) _
  have y_7 : ((((((((w5.setCell ⟨w.heap.size, 6, none⟩ (.slice A5 x.prefer.length d5)).setCell ⟨w.heap.size + 1, 0, none⟩ (.string x.name)).setCell ⟨w.heap.size + 1, 1, none⟩ (.slice A1 x.labels.length d1)).setCell ⟨w.heap.size + 1, 2, none⟩ (.slice A2 x.needs.length d2)).setCell ⟨w.heap.size + 1, 3, none⟩ (.slice A3 x.tols.length d3)).setCell ⟨w.heap.size + 1, 4, none⟩ (.string x.req)).setCell ⟨w.heap.size + 1, 5, none⟩ (.slice A4 x.apart.length d4)).setCell ⟨w.heap.size + 1, 6, none⟩ (.slice A5 x.prefer.length d5)).heap[w.heap.size + 1]? = some (.cells #[.string x.name, .slice A1 x.labels.length d1, .slice A2 x.needs.length d2, .slice A3 x.tols.length d3, .string x.req, .slice A4 x.apart.length d4, .slice A5 x.prefer.length d5, .int .i64 0] 40) := heap_setCell_at y_6
  have k_7 : Below w.heap.size w ((((((((w5.setCell ⟨w.heap.size, 6, none⟩ (.slice A5 x.prefer.length d5)).setCell ⟨w.heap.size + 1, 0, none⟩ (.string x.name)).setCell ⟨w.heap.size + 1, 1, none⟩ (.slice A1 x.labels.length d1)).setCell ⟨w.heap.size + 1, 2, none⟩ (.slice A2 x.needs.length d2)).setCell ⟨w.heap.size + 1, 3, none⟩ (.slice A3 x.tols.length d3)).setCell ⟨w.heap.size + 1, 4, none⟩ (.string x.req)).setCell ⟨w.heap.size + 1, 5, none⟩ (.slice A4 x.apart.length d4)).setCell ⟨w.heap.size + 1, 6, none⟩ (.slice A5 x.prefer.length d5)) := Below.setCell k_6 (by simp) _
  have y_8 : (((((((((w5.setCell ⟨w.heap.size, 6, none⟩ (.slice A5 x.prefer.length d5)).setCell ⟨w.heap.size + 1, 0, none⟩ (.string x.name)).setCell ⟨w.heap.size + 1, 1, none⟩ (.slice A1 x.labels.length d1)).setCell ⟨w.heap.size + 1, 2, none⟩ (.slice A2 x.needs.length d2)).setCell ⟨w.heap.size + 1, 3, none⟩ (.slice A3 x.tols.length d3)).setCell ⟨w.heap.size + 1, 4, none⟩ (.string x.req)).setCell ⟨w.heap.size + 1, 5, none⟩ (.slice A4 x.apart.length d4)).setCell ⟨w.heap.size + 1, 6, none⟩ (.slice A5 x.prefer.length d5)).setCell ⟨w.heap.size + 1, 7, none⟩ (.int .i64 x.prio)).heap[w.heap.size + 1]? = some (.cells #[.string x.name, .slice A1 x.labels.length d1, .slice A2 x.needs.length d2, .slice A3 x.tols.length d3, .string x.req, .slice A4 x.apart.length d4, .slice A5 x.prefer.length d5, .int .i64 x.prio] 40) := heap_setCell_at y_7
  have k_8 : Below w.heap.size w (((((((((w5.setCell ⟨w.heap.size, 6, none⟩ (.slice A5 x.prefer.length d5)).setCell ⟨w.heap.size + 1, 0, none⟩ (.string x.name)).setCell ⟨w.heap.size + 1, 1, none⟩ (.slice A1 x.labels.length d1)).setCell ⟨w.heap.size + 1, 2, none⟩ (.slice A2 x.needs.length d2)).setCell ⟨w.heap.size + 1, 3, none⟩ (.slice A3 x.tols.length d3)).setCell ⟨w.heap.size + 1, 4, none⟩ (.string x.req)).setCell ⟨w.heap.size + 1, 5, none⟩ (.slice A4 x.apart.length d4)).setCell ⟨w.heap.size + 1, 6, none⟩ (.slice A5 x.prefer.length d5)).setCell ⟨w.heap.size + 1, 7, none⟩ (.int .i64 x.prio)) := Below.setCell k_7 (by simp) _
  have x_0 : (((((((((w5.setCell ⟨w.heap.size, 6, none⟩ (.slice A5 x.prefer.length d5)).setCell ⟨w.heap.size + 1, 0, none⟩ (.string x.name)).setCell ⟨w.heap.size + 1, 1, none⟩ (.slice A1 x.labels.length d1)).setCell ⟨w.heap.size + 1, 2, none⟩ (.slice A2 x.needs.length d2)).setCell ⟨w.heap.size + 1, 3, none⟩ (.slice A3 x.tols.length d3)).setCell ⟨w.heap.size + 1, 4, none⟩ (.string x.req)).setCell ⟨w.heap.size + 1, 5, none⟩ (.slice A4 x.apart.length d4)).setCell ⟨w.heap.size + 1, 6, none⟩ (.slice A5 x.prefer.length d5)).setCell ⟨w.heap.size + 1, 7, none⟩ (.int .i64 x.prio)).cell? ⟨w.heap.size + 1, 0, none⟩ = some (.string x.name) := cell_at y_8 rfl
  have x_1 : (((((((((w5.setCell ⟨w.heap.size, 6, none⟩ (.slice A5 x.prefer.length d5)).setCell ⟨w.heap.size + 1, 0, none⟩ (.string x.name)).setCell ⟨w.heap.size + 1, 1, none⟩ (.slice A1 x.labels.length d1)).setCell ⟨w.heap.size + 1, 2, none⟩ (.slice A2 x.needs.length d2)).setCell ⟨w.heap.size + 1, 3, none⟩ (.slice A3 x.tols.length d3)).setCell ⟨w.heap.size + 1, 4, none⟩ (.string x.req)).setCell ⟨w.heap.size + 1, 5, none⟩ (.slice A4 x.apart.length d4)).setCell ⟨w.heap.size + 1, 6, none⟩ (.slice A5 x.prefer.length d5)).setCell ⟨w.heap.size + 1, 7, none⟩ (.int .i64 x.prio)).cell? ⟨w.heap.size + 1, 1, none⟩ = some (.slice A1 x.labels.length d1) := cell_at y_8 rfl
  have x_2 : (((((((((w5.setCell ⟨w.heap.size, 6, none⟩ (.slice A5 x.prefer.length d5)).setCell ⟨w.heap.size + 1, 0, none⟩ (.string x.name)).setCell ⟨w.heap.size + 1, 1, none⟩ (.slice A1 x.labels.length d1)).setCell ⟨w.heap.size + 1, 2, none⟩ (.slice A2 x.needs.length d2)).setCell ⟨w.heap.size + 1, 3, none⟩ (.slice A3 x.tols.length d3)).setCell ⟨w.heap.size + 1, 4, none⟩ (.string x.req)).setCell ⟨w.heap.size + 1, 5, none⟩ (.slice A4 x.apart.length d4)).setCell ⟨w.heap.size + 1, 6, none⟩ (.slice A5 x.prefer.length d5)).setCell ⟨w.heap.size + 1, 7, none⟩ (.int .i64 x.prio)).cell? ⟨w.heap.size + 1, 2, none⟩ = some (.slice A2 x.needs.length d2) := cell_at y_8 rfl
  have x_3 : (((((((((w5.setCell ⟨w.heap.size, 6, none⟩ (.slice A5 x.prefer.length d5)).setCell ⟨w.heap.size + 1, 0, none⟩ (.string x.name)).setCell ⟨w.heap.size + 1, 1, none⟩ (.slice A1 x.labels.length d1)).setCell ⟨w.heap.size + 1, 2, none⟩ (.slice A2 x.needs.length d2)).setCell ⟨w.heap.size + 1, 3, none⟩ (.slice A3 x.tols.length d3)).setCell ⟨w.heap.size + 1, 4, none⟩ (.string x.req)).setCell ⟨w.heap.size + 1, 5, none⟩ (.slice A4 x.apart.length d4)).setCell ⟨w.heap.size + 1, 6, none⟩ (.slice A5 x.prefer.length d5)).setCell ⟨w.heap.size + 1, 7, none⟩ (.int .i64 x.prio)).cell? ⟨w.heap.size + 1, 3, none⟩ = some (.slice A3 x.tols.length d3) := cell_at y_8 rfl
  have x_4 : (((((((((w5.setCell ⟨w.heap.size, 6, none⟩ (.slice A5 x.prefer.length d5)).setCell ⟨w.heap.size + 1, 0, none⟩ (.string x.name)).setCell ⟨w.heap.size + 1, 1, none⟩ (.slice A1 x.labels.length d1)).setCell ⟨w.heap.size + 1, 2, none⟩ (.slice A2 x.needs.length d2)).setCell ⟨w.heap.size + 1, 3, none⟩ (.slice A3 x.tols.length d3)).setCell ⟨w.heap.size + 1, 4, none⟩ (.string x.req)).setCell ⟨w.heap.size + 1, 5, none⟩ (.slice A4 x.apart.length d4)).setCell ⟨w.heap.size + 1, 6, none⟩ (.slice A5 x.prefer.length d5)).setCell ⟨w.heap.size + 1, 7, none⟩ (.int .i64 x.prio)).cell? ⟨w.heap.size + 1, 4, none⟩ = some (.string x.req) := cell_at y_8 rfl
  have x_5 : (((((((((w5.setCell ⟨w.heap.size, 6, none⟩ (.slice A5 x.prefer.length d5)).setCell ⟨w.heap.size + 1, 0, none⟩ (.string x.name)).setCell ⟨w.heap.size + 1, 1, none⟩ (.slice A1 x.labels.length d1)).setCell ⟨w.heap.size + 1, 2, none⟩ (.slice A2 x.needs.length d2)).setCell ⟨w.heap.size + 1, 3, none⟩ (.slice A3 x.tols.length d3)).setCell ⟨w.heap.size + 1, 4, none⟩ (.string x.req)).setCell ⟨w.heap.size + 1, 5, none⟩ (.slice A4 x.apart.length d4)).setCell ⟨w.heap.size + 1, 6, none⟩ (.slice A5 x.prefer.length d5)).setCell ⟨w.heap.size + 1, 7, none⟩ (.int .i64 x.prio)).cell? ⟨w.heap.size + 1, 5, none⟩ = some (.slice A4 x.apart.length d4) := cell_at y_8 rfl
  have x_6 : (((((((((w5.setCell ⟨w.heap.size, 6, none⟩ (.slice A5 x.prefer.length d5)).setCell ⟨w.heap.size + 1, 0, none⟩ (.string x.name)).setCell ⟨w.heap.size + 1, 1, none⟩ (.slice A1 x.labels.length d1)).setCell ⟨w.heap.size + 1, 2, none⟩ (.slice A2 x.needs.length d2)).setCell ⟨w.heap.size + 1, 3, none⟩ (.slice A3 x.tols.length d3)).setCell ⟨w.heap.size + 1, 4, none⟩ (.string x.req)).setCell ⟨w.heap.size + 1, 5, none⟩ (.slice A4 x.apart.length d4)).setCell ⟨w.heap.size + 1, 6, none⟩ (.slice A5 x.prefer.length d5)).setCell ⟨w.heap.size + 1, 7, none⟩ (.int .i64 x.prio)).cell? ⟨w.heap.size + 1, 6, none⟩ = some (.slice A5 x.prefer.length d5) := cell_at y_8 rfl
  have x_7 : (((((((((w5.setCell ⟨w.heap.size, 6, none⟩ (.slice A5 x.prefer.length d5)).setCell ⟨w.heap.size + 1, 0, none⟩ (.string x.name)).setCell ⟨w.heap.size + 1, 1, none⟩ (.slice A1 x.labels.length d1)).setCell ⟨w.heap.size + 1, 2, none⟩ (.slice A2 x.needs.length d2)).setCell ⟨w.heap.size + 1, 3, none⟩ (.slice A3 x.tols.length d3)).setCell ⟨w.heap.size + 1, 4, none⟩ (.string x.req)).setCell ⟨w.heap.size + 1, 5, none⟩ (.slice A4 x.apart.length d4)).setCell ⟨w.heap.size + 1, 6, none⟩ (.slice A5 x.prefer.length d5)).setCell ⟨w.heap.size + 1, 7, none⟩ (.int .i64 x.prio)).cell? ⟨w.heap.size + 1, 7, none⟩ = some (.int .i64 x.prio) := cell_at y_8 rfl
  have gf := k_8
  clear y_0 y_1 y_2 y_3 y_4 y_5 y_6 y_7 y_8
  have hz1 := hv1.move labOk (w' := (((((((((w5.setCell ⟨w.heap.size, 6, none⟩ (.slice A5 x.prefer.length d5)).setCell ⟨w.heap.size + 1, 0, none⟩ (.string x.name)).setCell ⟨w.heap.size + 1, 1, none⟩ (.slice A1 x.labels.length d1)).setCell ⟨w.heap.size + 1, 2, none⟩ (.slice A2 x.needs.length d2)).setCell ⟨w.heap.size + 1, 3, none⟩ (.slice A3 x.tols.length d3)).setCell ⟨w.heap.size + 1, 4, none⟩ (.string x.req)).setCell ⟨w.heap.size + 1, 5, none⟩ (.slice A4 x.apart.length d4)).setCell ⟨w.heap.size + 1, 6, none⟩ (.slice A5 x.prefer.length d5)).setCell ⟨w.heap.size + 1, 7, none⟩ (.int .i64 x.prio))) (fun j hj => by have h1 := hj.1; rw [Below.heap_setCell _ _ _ _ (by simp; omega), Below.heap_setCell _ _ _ _ (by simp; omega), Below.heap_setCell _ _ _ _ (by simp; omega), Below.heap_setCell _ _ _ _ (by simp; omega), Below.heap_setCell _ _ _ _ (by simp; omega), Below.heap_setCell _ _ _ _ (by simp; omega), Below.heap_setCell _ _ _ _ (by simp; omega), Below.heap_setCell _ _ _ _ (by simp; omega), Below.heap_setCell _ _ _ _ (by simp; omega)])
  have hz2 := hv2.move itmOk (w' := (((((((((w5.setCell ⟨w.heap.size, 6, none⟩ (.slice A5 x.prefer.length d5)).setCell ⟨w.heap.size + 1, 0, none⟩ (.string x.name)).setCell ⟨w.heap.size + 1, 1, none⟩ (.slice A1 x.labels.length d1)).setCell ⟨w.heap.size + 1, 2, none⟩ (.slice A2 x.needs.length d2)).setCell ⟨w.heap.size + 1, 3, none⟩ (.slice A3 x.tols.length d3)).setCell ⟨w.heap.size + 1, 4, none⟩ (.string x.req)).setCell ⟨w.heap.size + 1, 5, none⟩ (.slice A4 x.apart.length d4)).setCell ⟨w.heap.size + 1, 6, none⟩ (.slice A5 x.prefer.length d5)).setCell ⟨w.heap.size + 1, 7, none⟩ (.int .i64 x.prio))) (fun j hj => by have h1 := hj.1; rw [Below.heap_setCell _ _ _ _ (by simp; omega), Below.heap_setCell _ _ _ _ (by simp; omega), Below.heap_setCell _ _ _ _ (by simp; omega), Below.heap_setCell _ _ _ _ (by simp; omega), Below.heap_setCell _ _ _ _ (by simp; omega), Below.heap_setCell _ _ _ _ (by simp; omega), Below.heap_setCell _ _ _ _ (by simp; omega), Below.heap_setCell _ _ _ _ (by simp; omega), Below.heap_setCell _ _ _ _ (by simp; omega)])
  have hz3 := hv3.move tolOk (w' := (((((((((w5.setCell ⟨w.heap.size, 6, none⟩ (.slice A5 x.prefer.length d5)).setCell ⟨w.heap.size + 1, 0, none⟩ (.string x.name)).setCell ⟨w.heap.size + 1, 1, none⟩ (.slice A1 x.labels.length d1)).setCell ⟨w.heap.size + 1, 2, none⟩ (.slice A2 x.needs.length d2)).setCell ⟨w.heap.size + 1, 3, none⟩ (.slice A3 x.tols.length d3)).setCell ⟨w.heap.size + 1, 4, none⟩ (.string x.req)).setCell ⟨w.heap.size + 1, 5, none⟩ (.slice A4 x.apart.length d4)).setCell ⟨w.heap.size + 1, 6, none⟩ (.slice A5 x.prefer.length d5)).setCell ⟨w.heap.size + 1, 7, none⟩ (.int .i64 x.prio))) (fun j hj => by have h1 := hj.1; rw [Below.heap_setCell _ _ _ _ (by simp; omega), Below.heap_setCell _ _ _ _ (by simp; omega), Below.heap_setCell _ _ _ _ (by simp; omega), Below.heap_setCell _ _ _ _ (by simp; omega), Below.heap_setCell _ _ _ _ (by simp; omega), Below.heap_setCell _ _ _ _ (by simp; omega), Below.heap_setCell _ _ _ _ (by simp; omega), Below.heap_setCell _ _ _ _ (by simp; omega), Below.heap_setCell _ _ _ _ (by simp; omega)])
  have hz4 := hv4.move aptOk (w' := (((((((((w5.setCell ⟨w.heap.size, 6, none⟩ (.slice A5 x.prefer.length d5)).setCell ⟨w.heap.size + 1, 0, none⟩ (.string x.name)).setCell ⟨w.heap.size + 1, 1, none⟩ (.slice A1 x.labels.length d1)).setCell ⟨w.heap.size + 1, 2, none⟩ (.slice A2 x.needs.length d2)).setCell ⟨w.heap.size + 1, 3, none⟩ (.slice A3 x.tols.length d3)).setCell ⟨w.heap.size + 1, 4, none⟩ (.string x.req)).setCell ⟨w.heap.size + 1, 5, none⟩ (.slice A4 x.apart.length d4)).setCell ⟨w.heap.size + 1, 6, none⟩ (.slice A5 x.prefer.length d5)).setCell ⟨w.heap.size + 1, 7, none⟩ (.int .i64 x.prio))) (fun j hj => by have h1 := hj.1; rw [Below.heap_setCell _ _ _ _ (by simp; omega), Below.heap_setCell _ _ _ _ (by simp; omega), Below.heap_setCell _ _ _ _ (by simp; omega), Below.heap_setCell _ _ _ _ (by simp; omega), Below.heap_setCell _ _ _ _ (by simp; omega), Below.heap_setCell _ _ _ _ (by simp; omega), Below.heap_setCell _ _ _ _ (by simp; omega), Below.heap_setCell _ _ _ _ (by simp; omega), Below.heap_setCell _ _ _ _ (by simp; omega)])
  have hz5 := hv5.move prfOk (w' := (((((((((w5.setCell ⟨w.heap.size, 6, none⟩ (.slice A5 x.prefer.length d5)).setCell ⟨w.heap.size + 1, 0, none⟩ (.string x.name)).setCell ⟨w.heap.size + 1, 1, none⟩ (.slice A1 x.labels.length d1)).setCell ⟨w.heap.size + 1, 2, none⟩ (.slice A2 x.needs.length d2)).setCell ⟨w.heap.size + 1, 3, none⟩ (.slice A3 x.tols.length d3)).setCell ⟨w.heap.size + 1, 4, none⟩ (.string x.req)).setCell ⟨w.heap.size + 1, 5, none⟩ (.slice A4 x.apart.length d4)).setCell ⟨w.heap.size + 1, 6, none⟩ (.slice A5 x.prefer.length d5)).setCell ⟨w.heap.size + 1, 7, none⟩ (.int .i64 x.prio))) (fun j hj => by have h1 := hj.1; rw [Below.heap_setCell _ _ _ _ (by simp; omega), Below.heap_setCell _ _ _ _ (by simp; omega), Below.heap_setCell _ _ _ _ (by simp; omega), Below.heap_setCell _ _ _ _ (by simp; omega), Below.heap_setCell _ _ _ _ (by simp; omega), Below.heap_setCell _ _ _ _ (by simp; omega), Below.heap_setCell _ _ _ _ (by simp; omega), Below.heap_setCell _ _ _ _ (by simp; omega), Below.heap_setCell _ _ _ _ (by simp; omega)])
  have hv2 := HR.out _ _ gf ⟨_, _, _, _, _, rfl, hz1.mono labOk (fun j hj => by have := hj.1; show w.heap.size ≤ j; omega), hz2.mono itmOk (fun j hj => by have := hj.1; show w.heap.size ≤ j; omega), hz3.mono tolOk (fun j hj => by have := hj.1; show w.heap.size ≤ j; omega), hz4.mono aptOk (fun j hj => by have := hj.1; show w.heap.size ≤ j; omega), hz5.mono prfOk (fun j hj => by have := hj.1; show w.heap.size ≤ j; omega)⟩
  go_wp2_with fail
  refine bodyPost_ret ?_ rfl hv2
  simp [results, Tryz.results36, go_sem, x_0, x_1, x_2, x_3, x_4, x_5, x_6, x_7]
end Go.Proofs.YtmenipaibjifiaaGreatDoor
