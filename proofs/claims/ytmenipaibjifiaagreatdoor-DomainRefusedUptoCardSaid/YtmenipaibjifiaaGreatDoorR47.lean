/-
  A range whose rounds append a value and a number: what is kept of it.
-/
import Derived.Test.YtmenipaibjifiaaGreatDoorR19
import Derived.Test.YtmenipaibjifiaaGreatDoorR46
set_option linter.unusedVariables false
set_option linter.unusedSimpArgs false
namespace Go.Proofs.YtmenipaibjifiaaGreatDoor
open Go.RowKit Go.BigFrame Go.Shelf

theorem OwnK.cells {α : Type} {K : KRel α} {sz : Nat} {e : TypeId} {w : World} {B : Nat} {ok : Nat → Prop} {v : Value} {xs : List α} (h : OwnK K sz e w B ok v xs) {k : Nat} (hk : v.ownBlock = some k) : ∃ cs t fz, w.heap[k]? = some (.cells cs t fz) := by
  obtain ⟨_, css, hr, _⟩ := h
  rcases hr.2 with ⟨rfl, hn⟩ | ⟨g, cap, cur, rfl, hB, hg, _⟩
  · simp [Value.ownBlock] at hk
  · simp [Value.ownBlock] at hk
    subst hk
    exact ⟨_, _, _, hg⟩
/-- The rounds so far: the two lists in their cells. -/
def GotI (wd : World) (B10 B11 : Nat) (pre : List (ByteArray × Int)) (W : World) : Prop :=
  ∃ gv cv, W.heap[B10]? = some (.cells #[gv] 61) ∧ W.heap[B11]? = some (.cells #[cv] 43) ∧ OwnK strsK 1 9 W wd.heap.size (fun _ => False) gv (pre.map Prod.fst) ∧ OwnK intsK 1 3 W wd.heap.size (fun _ => False) cv (pre.map Prod.snd) ∧
    (∀ x, gv.ownBlock = some x → cv.ownBlock ≠ some x) ∧ Mod (fun k => k = B10 ∨ k = B11) wd W
theorem gotI_own {wd : World} {B10 B11 B : Nat} (hB : wd.heap.size ≤ B) : OwnFrom B (GotI wd B10 B11) := by
  rintro s W W' row ⟨gv, cv, h1, h2, h3, h4, h5, h6⟩ hg hr
  have hX : Mod (fun k => row = some k) W W' := ⟨hg.os, hg.tape, hg.output, hg.size, fun k hk hne => hg.block k hk (fun e => hne e.symm)⟩
  have hc : ∀ {k : Nat} {cs : Array Value} {t : TypeId} {fz : Nat × Nat}, W.heap[k]? = some (.cells cs t fz) → ¬ row = some k := fun {k cs t fz} hk e => by
    obtain ⟨_, o, ho, hcl⟩ := hr k e
    rw [hk] at ho
    cases ho
    cases hcl
  have hm : ∀ {v : Value} {α : Type} {K : KRel α} {sz : Nat} {e : TypeId} {xs : List α} (_ : OwnK K sz e W wd.heap.size (fun _ => False) v xs), ∀ k, k < W.heap.size → (False ∨ v.ownBlock = some k) → W'.heap[k]? = W.heap[k]? := fun h k hk hv => by
    rcases hv with hv | hv
    · exact hv.elim
    · obtain ⟨cs, t, fz, hcs⟩ := h.cells hv
      exact hX.block k hk (hc hcs)
  refine ⟨gv, cv, hX.keep h1 (hc h1), hX.keep h2 (hc h2), h3.move strOk (hm h3) hg.size, h4.move intOk (hm h4) hg.size, h5, h6.trans hX (fun i hi e => ?_)⟩
  have := (hr i e).1
  omega
theorem infoSt : (Tryz.prog.info? 9).map (fun i => (i.zero, i.size, i.bytes)) = some (some (.string ⟨#[]⟩), 1, 16) := by kernel_rfl
theorem infoIn : (Tryz.prog.info? 3).map (fun i => (i.zero, i.size, i.bytes)) = some (some (.int .i64 0), 1, 8) := by kernel_rfl
/-- One round more. -/
theorem got_step {wd W : World} {B10 B11 : Nat} {pre : List (ByteArray × Int)} (I : GotI wd B10 B11 pre W) (x : ByteArray × Int) (hp : pre.length ≤ 1048576) (l10 : B10 < wd.heap.size) (l11 : B11 < wd.heap.size) (hne : ¬ B10 = B11) :
    ∃ gv cv v1 w1 v2 w3, (∃ A n c, v1 = .slice A n c) ∧ (∃ A n c, v2 = .slice A n c) ∧ W.cell? ⟨B10, 0, none⟩ = some gv ∧ (∀ ty, (Builtin.append_ #[61, 61] ty #[gv, .slice (some ⟨W.heap.size, 0, none⟩) 1 1]).run Tryz.prog (W.alloc (.cells #[.string x.1] 9)) = .ok v1 w1) ∧ w1.cell? ⟨B10, 0, none⟩ = some gv ∧ w1.frozen? ⟨B10, 0, none⟩ = false ∧
      (w1.setCell ⟨B10, 0, none⟩ v1).cell? ⟨B11, 0, none⟩ = some cv ∧ (∀ ty, (Builtin.append_ #[43, 43] ty #[cv, .slice (some ⟨w1.heap.size, 0, none⟩) 1 1]).run Tryz.prog ((w1.setCell ⟨B10, 0, none⟩ v1).alloc (.cells #[.int .i64 x.2] 3)) = .ok v2 w3) ∧ w3.cell? ⟨B11, 0, none⟩ = some cv ∧ w3.frozen? ⟨B11, 0, none⟩ = false ∧
      GotI wd B10 B11 (pre ++ [x]) (w3.setCell ⟨B11, 0, none⟩ v2) ∧ W.heap.size ≤ (w3.setCell ⟨B11, 0, none⟩ v2).heap.size ∧ (∀ (j : Nat) (o : Obj), W.heap[j]? = some o → o.isCells = false → (w3.setCell ⟨B11, 0, none⟩ v2).heap[j]? = some o) ∧ (∀ j : Nat, j < wd.heap.size → ¬ j = B10 → ¬ j = B11 → (w3.setCell ⟨B11, 0, none⟩ v2).heap[j]? = W.heap[j]?) := by
  obtain ⟨gv, cv, h1, h2, h3, h4, h5, h6⟩ := I
  have hsz := h6.size
  have hl1 : (pre.map Prod.fst).length ≤ 1048576 := by simpa using hp
  have hl2 : (pre.map Prod.snd).length ≤ 1048576 := by simpa using hp
  have ho1 := h3.own
  have ho2 := h4.own
  -- the first append
  have A1 := fun ty => append_run (P := Tryz.prog) (W := W) strOk 61 ty 9 (.string ⟨#[]⟩) 16 wd.heap.size (fun _ => False) Tryz.underlying61 infoSt rfl (by decide) (by decide) gv (pre.map Prod.fst) x.1 #[.string x.1] (fun u hu => by simp at hu; subst hu; rfl) h3 (show strsK W (fun _ => False) x.1 [.string x.1] from rfl) hsz (by omega)
  obtain ⟨v1, w1, r1, k1, g1, n1⟩ := A1 61
  have r1' : ∀ ty, (Builtin.append_ #[61, 61] ty #[gv, .slice (some ⟨W.heap.size, 0, none⟩) 1 1]).run Tryz.prog (W.alloc (.cells #[.string x.1] 9)) = .ok v1 w1 := fun ty => r1
  have e1 : ∀ k, k < W.heap.size → gv.ownBlock ≠ some k → w1.heap[k]? = W.heap[k]? := fun k hk hne => g1.block k hk (fun e => hne e.symm)
  have q10 : gv.ownBlock ≠ some B10 := fun e => by have := (ho1 _ e).1; omega
  have q11 : gv.ownBlock ≠ some B11 := fun e => by have := (ho1 _ e).1; omega
  have p10 : cv.ownBlock ≠ some B10 := fun e => by have := (ho2 _ e).1; omega
  have p11 : cv.ownBlock ≠ some B11 := fun e => by have := (ho2 _ e).1; omega
  have b10 : w1.heap[B10]? = some (.cells #[gv] 61) := (e1 B10 (by omega) q10).trans h1
  have b11 : w1.heap[B11]? = some (.cells #[cv] 43) := (e1 B11 (by omega) q11).trans h2
  have s1 := g1.size
  -- the store
  have M2 : Mod (fun k => k = B10) w1 (w1.setCell ⟨B10, 0, none⟩ v1) := Mod.setCell (S := fun k => k = B10) (p := ⟨B10, 0, none⟩) (Mod.refl _ w1) (fun _ => rfl) _
  have c10 : (w1.setCell ⟨B10, 0, none⟩ v1).heap[B10]? = some (.cells #[v1] 61) := by
    have := heap_setCell_at (i := 0) (v := v1) b10
    simpa using this
  have c11 : (w1.setCell ⟨B10, 0, none⟩ v1).heap[B11]? = some (.cells #[cv] 43) := M2.keep b11 (fun e => hne e.symm)
  have s2 : (w1.setCell ⟨B10, 0, none⟩ v1).heap.size = w1.heap.size := by simp [World.setCell]
  have ov1 : ∀ k, v1.ownBlock = some k → wd.heap.size ≤ k ∧ k < w1.heap.size := k1.own
  have h4' : OwnK intsK 1 3 (w1.setCell ⟨B10, 0, none⟩ v1) wd.heap.size (fun _ => False) cv (pre.map Prod.snd) := h4.move intOk (fun k hk hv => by
    rcases hv with hv | hv
    · exact hv.elim
    · have hb := (ho2 _ hv)
      exact (M2.block k (by omega) (fun e => by omega)).trans (e1 k hk (fun e => h5 k e hv))) (by omega)
  have k1' : OwnK strsK 1 9 (w1.setCell ⟨B10, 0, none⟩ v1) wd.heap.size (fun _ => False) v1 (pre.map Prod.fst ++ [x.1]) := k1.move strOk (fun k hk hv => by
    rcases hv with hv | hv
    · exact hv.elim
    · have hb := (ov1 _ hv)
      exact M2.block k hk (fun e => by omega)) (by omega)
  -- the second append
  obtain ⟨v2, w3, r2, k2, g2, n2⟩ := append_run (P := Tryz.prog) (W := w1.setCell ⟨B10, 0, none⟩ v1) intOk 43 43 3 (.int .i64 0) 8 wd.heap.size (fun _ => False) Tryz.underlying43 infoIn rfl (by decide) (by decide) cv (pre.map Prod.snd) x.2 #[.int .i64 x.2] (fun u hu => by simp at hu; subst hu; rfl) h4' (show intsK _ (fun _ => False) x.2 [.int .i64 x.2] from rfl) (by omega) (by omega)
  rw [s2] at r2
  have r2' : ∀ ty, (Builtin.append_ #[43, 43] ty #[cv, .slice (some ⟨w1.heap.size, 0, none⟩) 1 1]).run Tryz.prog ((w1.setCell ⟨B10, 0, none⟩ v1).alloc (.cells #[.int .i64 x.2] 3)) = .ok v2 w3 := fun ty => r2
  have e2 : ∀ k, k < w1.heap.size → cv.ownBlock ≠ some k → w3.heap[k]? = (w1.setCell ⟨B10, 0, none⟩ v1).heap[k]? := fun k hk hne => g2.block k (by omega) (fun e => hne e.symm)
  have s3 := g2.size
  have d10 : w3.heap[B10]? = some (.cells #[v1] 61) := (e2 B10 (by omega) p10).trans c10
  have d11 : w3.heap[B11]? = some (.cells #[cv] 43) := (e2 B11 (by omega) p11).trans c11
  have M4 : Mod (fun k => k = B11) w3 (w3.setCell ⟨B11, 0, none⟩ v2) := Mod.setCell (S := fun k => k = B11) (p := ⟨B11, 0, none⟩) (Mod.refl _ w3) (fun _ => rfl) _
  have f11 : (w3.setCell ⟨B11, 0, none⟩ v2).heap[B11]? = some (.cells #[v2] 43) := by
    have := heap_setCell_at (i := 0) (v := v2) d11
    simpa using this
  have s4 : (w3.setCell ⟨B11, 0, none⟩ v2).heap.size = w3.heap.size := by simp [World.setCell]
  have ov2 : ∀ k, v2.ownBlock = some k → wd.heap.size ≤ k ∧ k < w3.heap.size := k2.own
  have hv1c : ∀ k, v1.ownBlock = some k → cv.ownBlock ≠ some k := fun k hk hc => by
    rcases n1 with e | ⟨b, e, hb⟩
    · exact h5 k (by rw [← e]; exact hk) hc
    · rw [e] at hk
      cases hk
      have := (ho2 _ hc).2
      omega
  obtain ⟨A1', c1', sl1, _⟩ := k1.slice
  obtain ⟨A2', c2', sl2, _⟩ := k2.slice
  refine ⟨gv, cv, v1, w1, v2, w3, ⟨_, _, _, sl1⟩, ⟨_, _, _, sl2⟩, cell_at h1 rfl, r1', cell_at b10 rfl, frozen_at b10, cell_at c11 rfl, r2', cell_at d11 rfl, frozen_at d11, ⟨v1, v2, M4.keep d10 hne, f11, ?_, ?_, ?_, ?_⟩, by omega, ?_, ?_⟩
  · rw [List.map_append, List.map_cons, List.map_nil]
    refine k1'.move strOk (fun k hk hv => ?_) (by omega)
    rcases hv with hv | hv
    · exact hv.elim
    · have hb := ov1 _ hv
      exact (M4.block k (by omega) (fun e => by omega)).trans (e2 k (by omega) (hv1c k hv))
  · rw [List.map_append, List.map_cons, List.map_nil]
    refine k2.move intOk (fun k hk hv => ?_) (by omega)
    rcases hv with hv | hv
    · exact hv.elim
    · have hb := ov2 _ hv
      exact M4.block k hk (fun e => by omega)
  · intro k hk hc
    rcases n2 with e | ⟨b, e, hb⟩
    · exact hv1c k hk (by rw [← e]; exact hc)
    · rw [e] at hc
      cases hc
      have := (ov1 _ hk).2
      omega
  · refine h6.trans (T := fun k => k = B10 ∨ k = B11 ∨ wd.heap.size ≤ k) ⟨?_, ?_, ?_, by omega, fun k hk hne2 => ?_⟩ (fun i hi e => by
      rcases e with e | e | e
      · exact .inl e
      · exact .inr e
      · omega)
    · exact (M4.os.trans g2.os).trans (M2.os.trans g1.os)
    · exact (M4.tape.trans g2.tape).trans (M2.tape.trans g1.tape)
    · exact (M4.output.trans g2.output).trans (M2.output.trans g1.output)
    · have a1 : gv.ownBlock ≠ some k := fun e => hne2 (.inr (.inr (ho1 _ e).1))
      have a2 : cv.ownBlock ≠ some k := fun e => hne2 (.inr (.inr (ho2 _ e).1))
      exact (M4.block k (by omega) (fun e => hne2 (.inr (.inl e)))).trans ((e2 k (by omega) a2).trans ((M2.block k (by omega) (fun e => hne2 (.inl e))).trans (e1 k hk a1)))
  · intro j o hj ho
    have hjl := (Array.getElem?_eq_some_iff.1 hj).1
    have hcl : ∀ {cs : Array Value} {t : TypeId} {fz : Nat × Nat}, W.heap[j]? = some (.cells cs t fz) → False := fun {cs t fz} h => by
      rw [hj] at h
      cases h
      cases ho
    have a1 : gv.ownBlock ≠ some j := fun e => by obtain ⟨cs, t, fz, h⟩ := h3.cells e; exact hcl h
    have a2 : cv.ownBlock ≠ some j := fun e => by obtain ⟨cs, t, fz, h⟩ := h4.cells e; exact hcl h
    have a3 : ¬ j = B10 := fun e => by rw [e] at hj hcl; exact hcl h1
    have a4 : ¬ j = B11 := fun e => by rw [e] at hj hcl; exact hcl h2
    exact ((M4.block j (by omega) a4).trans ((e2 j (by omega) a2).trans ((M2.block j (by omega) a3).trans (e1 j hjl a1)))).trans hj
  · intro j hj a3 a4
    have a1 : gv.ownBlock ≠ some j := fun e => by have := (ho1 _ e).1; omega
    have a2 : cv.ownBlock ≠ some j := fun e => by have := (ho2 _ e).1; omega
    exact (M4.block j (by omega) a4).trans ((e2 j (by omega) a2).trans ((M2.block j (by omega) a3).trans (e1 j (by omega) a1)))
/-- The rounds so far: the counter's cell. -/
def NextI (wd : World) (bi : Nat) (zs pre : List (ByteArray × Int)) (W : World) : Prop :=
  pre <+: zs ∧ Mod (fun k => k = bi) wd W ∧ W.heap[bi]? = some (.cells #[.int .i64 (pre.length : Nat)] 3)
theorem nextI_own {wd : World} {bi : Nat} {zs : List (ByteArray × Int)} {B : Nat} (hB : wd.heap.size ≤ B) (hbi : bi < wd.heap.size) : OwnFrom B (NextI wd bi zs) := by
  rintro s W W' row ⟨h1, h2, h3⟩ hg hr
  have hX : Mod (fun k => row = some k) W W' := ⟨hg.os, hg.tape, hg.output, hg.size, fun k hk hne => hg.block k hk (fun e => hne e.symm)⟩
  refine ⟨h1, h2.trans hX (fun i hi e => ?_), hX.keep h3 (fun e => ?_)⟩
  · have := (hr i e).1
    omega
  · have := (hr bi e).1
    omega
theorem prefix_next {zs pre : List (ByteArray × Int)} {x : ByteArray × Int} (hp : pre <+: zs) (hl : pre.length < zs.length) : (x = zs[pre.length]'hl → pre ++ [x] <+: zs) ∧ (x ≠ zs[pre.length]'hl → ¬ pre ++ [x] <+: zs) := by
  have h1 : pre = zs.take pre.length := List.prefix_iff_eq_take.1 hp
  constructor
  · intro e
    have h2 : pre ++ [x] = zs.take (pre.length + 1) := by
      rw [List.take_succ_eq_append_getElem hl, ← h1, e]
    rw [h2]
    exact List.take_prefix _ _
  · intro hne h
    have h2 := List.prefix_iff_eq_take.1 h
    have h3 : (pre ++ [x])[pre.length]? = some (zs[pre.length]'hl) := by
      rw [h2, List.getElem?_take]
      simp [hl]
    simp at h3
    exact hne h3
end Go.Proofs.YtmenipaibjifiaaGreatDoor
