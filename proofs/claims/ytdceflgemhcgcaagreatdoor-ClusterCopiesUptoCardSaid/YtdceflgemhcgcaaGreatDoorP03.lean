/-
Slices that read as lists (SlK), rows of one's own that grow (OwnK), over any element relation; the plain data of the program. No condition: a library of plain lemmas.
The plain data of the program, and what their cells say. No condition: definitions and plain lemmas.
The rows of the reference's world of law 06, its acts: plain data and what their cells say. No program is walked.
-/
import Derived.Test.YtdceflgemhcgcaaGreatDoorP02
import Derived.Maps.AppendAt
import Derived.Deep.AppendLies
import Derived.Deep.OwnRows
set_option linter.unusedVariables false
set_option linter.unusedSimpArgs false
namespace Go.Proofs.YtdceflgemhcgcaaGreatDoor
open Go.RowKit

/-- What a value's cells say: in a world, of a datum; 'ok': the blocks on which that hangs. -/
abbrev KRel (α : Type) := World → (Nat → Prop) → α → List Value → Prop
/-- A relation that abides whatever leaves those blocks alone, and more blocks. -/
structure KOk {α : Type} (K : KRel α) (sz : Nat) : Prop where
  len : ∀ {w ok x cs}, K w ok x cs → cs.length = sz
  move : ∀ {w w' ok x cs}, K w ok x cs → (∀ k, ok k → w'.heap[k]? = w.heap[k]?) → K w' ok x cs
  mono : ∀ {w ok ok' x cs}, K w ok x cs → (∀ k, ok k → ok' k) → K w ok' x cs
  bnd : ∀ {w ok x cs}, K w ok x cs → K w (fun k => ok k ∧ k < w.heap.size) x cs
/-- Plain cells. -/
def Flat {α : Type} (enc : α → List Value) : KRel α := fun _ _ x cs => cs = enc x
theorem flatOk {α : Type} {enc : α → List Value} {sz : Nat} (h : ∀ x, (enc x).length = sz) : KOk (Flat enc) sz :=
  ⟨fun e => by cases e; exact h _, fun h _ => h, fun h _ => h, fun h => h⟩

/-- The slice v reads as the list xs. -/
def SlK {α : Type} (K : KRel α) (sz : Nat) (w : World) (ok : Nat → Prop) (v : Value) (xs : List α) : Prop :=
  ∃ A c, v = .slice A xs.length c ∧ xs.length ≤ c ∧ c ≤ maxLen ∧ (xs = [] ∨ ∃ b off, A = some ⟨b, off, none⟩ ∧ ok b ∧ b < w.heap.size ∧
    ∀ j x, xs[j]? = some x → ∃ cs, K w ok x cs ∧ cs.length = sz ∧ ∀ i u, cs[i]? = some u → w.cell? ⟨b, off + (j * sz + i), none⟩ = some u)
section
variable {α : Type} {K : KRel α} {sz : Nat} {w w' : World} {ok ok' : Nat → Prop} {v : Value} {xs : List α}
theorem SlK.nil : SlK K sz w ok (.slice none 0 0) ([] : List α) := ⟨none, 0, rfl, Nat.le_refl _, by omega, .inl rfl⟩
theorem SlK.form (h : SlK K sz w ok v xs) : ∃ A c, v = .slice A xs.length c ∧ xs.length ≤ c ∧ c ≤ maxLen := by obtain ⟨A, c, h1, h2, h3, _⟩ := h; exact ⟨A, c, h1, h2, h3⟩
theorem SlK.move (H : KOk K sz) (h : SlK K sz w ok v xs) (hm : ∀ k, ok k → w'.heap[k]? = w.heap[k]?) : SlK K sz w' ok v xs := by
  obtain ⟨A, c, h1, h2, h3, h4⟩ := h
  refine ⟨A, c, h1, h2, h3, h4.imp id ?_⟩
  rintro ⟨b, off, hA, hb, hbl, hc⟩
  have hbl' : b < w'.heap.size := by
    have := hm b hb
    rw [Array.getElem?_eq_getElem hbl] at this
    exact (Array.getElem?_eq_some_iff.1 this).1
  refine ⟨b, off, hA, hb, hbl', fun j x hx => ?_⟩
  obtain ⟨cs, hk, hl, hcell⟩ := hc j x hx
  refine ⟨cs, H.move hk hm, hl, fun i u hu => ?_⟩
  rw [World.cell?_of_block (w := w) (hm b hb)]
  exact hcell i u hu
theorem SlK.mono (H : KOk K sz) (h : SlK K sz w ok v xs) (hok : ∀ k, ok k → ok' k) : SlK K sz w ok' v xs := by
  obtain ⟨A, c, h1, h2, h3, h4⟩ := h
  refine ⟨A, c, h1, h2, h3, h4.imp id ?_⟩
  rintro ⟨b, off, hA, hb, hbl, hc⟩
  refine ⟨b, off, hA, hok b hb, hbl, fun j x hx => ?_⟩
  obtain ⟨cs, hk, hl, hcell⟩ := hc j x hx
  exact ⟨cs, H.mono hk hok, hl, hcell⟩
theorem SlK.bnd (H : KOk K sz) (h : SlK K sz w ok v xs) : SlK K sz w (fun k => ok k ∧ k < w.heap.size) v xs := by
  obtain ⟨A, c, h1, h2, h3, h4⟩ := h
  refine ⟨A, c, h1, h2, h3, h4.imp id ?_⟩
  rintro ⟨b, off, hA, hb, hbl, hc⟩
  refine ⟨b, off, hA, ⟨hb, hbl⟩, hbl, fun j x hx => ?_⟩
  obtain ⟨cs, hk, hl, hcell⟩ := hc j x hx
  exact ⟨cs, H.bnd hk, hl, hcell⟩
theorem SlK.one (h : SlK K sz w ok v xs) : v.oneCell' = true := by obtain ⟨A, c, rfl, _⟩ := h; rfl
/-- At an element. -/
theorem SlK.elem (h : SlK K sz w ok v xs) {j : Nat} (hj : j < xs.length) : ∃ b off c cs, v = .slice (some ⟨b, off, none⟩) xs.length c ∧ ok b ∧ b < w.heap.size ∧ K w ok (xs[j]'hj) cs ∧ cs.length = sz ∧
    ∀ i u, cs[i]? = some u → w.cell? ⟨b, off + (j * sz + i), none⟩ = some u := by
  obtain ⟨A, c, h1, h2, h3, h4⟩ := h
  rcases h4 with rfl | ⟨b, off, rfl, hb, hbl, hc⟩
  · simp at hj
  · obtain ⟨cs, hk, hl, hcell⟩ := hc j _ (List.getElem?_eq_getElem hj)
    exact ⟨b, off, c, cs, h1, hb, hbl, hk, hl, hcell⟩
/-- The slice at an address, its elements one by one. -/
theorem SlK.addr (h : SlK K sz w ok v xs) (hp : 0 < xs.length) : ∃ b off c, v = .slice (some ⟨b, off, none⟩) xs.length c ∧ xs.length ≤ c ∧ c ≤ maxLen ∧ ok b ∧ b < w.heap.size ∧
    ∀ j (hj : j < xs.length), ∃ cs, K w ok (xs[j]'hj) cs ∧ cs.length = sz ∧ ∀ i u, cs[i]? = some u → w.cell? ⟨b, off + (j * sz + i), none⟩ = some u := by
  obtain ⟨A, c, h1, h2, h3, h4⟩ := h
  rcases h4 with rfl | ⟨b, off, rfl, hb, hbl, hc⟩
  · simp at hp
  · exact ⟨b, off, c, h1, h2, h3, hb, hbl, fun j hj => hc j _ (List.getElem?_eq_getElem hj)⟩
end

/-- A row of one's own, its elements read by K; 'ok': what the elements hang on: never the row itself. -/
def OwnK {α : Type} (K : KRel α) (sz : Nat) (e : TypeId) (w : World) (B : Nat) (ok : Nat → Prop) (v : Value) (xs : List α) : Prop :=
  (∀ k, ok k → k < w.heap.size ∧ v.ownBlock ≠ some k) ∧ ∃ css : List (List Value), w.ownsRow B e sz v xs.length css.flatten ∧ css.length = xs.length ∧ ∀ (j : Nat) (x : α) (cs : List Value), xs[j]? = some x → css[j]? = some cs → K w ok x cs
theorem flatten_get {sz : Nat} : ∀ (css : List (List Value)), (∀ c ∈ css, c.length = sz) → ∀ (j : Nat) (cs : List Value), css[j]? = some cs → ∀ (i : Nat) (u : Value), cs[i]? = some u → css.flatten[j * sz + i]? = some u := by
  intro css
  induction css with
  | nil => intro _ j cs h; simp at h
  | cons c r ih =>
    intro hl j cs hj i u hu
    have hc : c.length = sz := hl c (by simp)
    simp only [List.flatten_cons]
    cases j with
    | zero =>
      simp at hj; subst hj
      rw [Nat.zero_mul, Nat.zero_add, List.getElem?_append_left (List.getElem?_eq_some_iff.1 hu).1]; exact hu
    | succ j =>
      rw [List.getElem?_append_right (by rw [hc, Nat.add_mul]; omega), hc, show (j + 1) * sz + i - sz = j * sz + i by rw [Nat.add_mul]; omega]
      exact ih (fun c h => hl c (List.mem_cons_of_mem _ h)) j cs (by simpa using hj) i u hu
section
variable {α : Type} {K : KRel α} {sz : Nat} {e : TypeId} {w w' : World} {B : Nat} {ok ok' : Nat → Prop} {v : Value} {xs : List α}
theorem OwnK.nil (h : ∀ k, ok k → k < w.heap.size) : OwnK K sz e w B ok (.slice none 0 0) ([] : List α) :=
  ⟨fun k hk => ⟨h k hk, by simp [Value.ownBlock]⟩, [], World.ownsRow_nil _ _ _ _, rfl, fun j x cs h => by simp at h⟩
theorem OwnK.slk (H : KOk K sz) (h : OwnK K sz e w B ok v xs) : SlK K sz w (fun k => ok k ∨ v.ownBlock = some k) v xs := by
  obtain ⟨h0, css, hr, hl, hk⟩ := h
  have hcs : ∀ c ∈ css, c.length = sz := by
    intro c hc
    obtain ⟨j, hj, rfl⟩ := List.mem_iff_getElem.1 hc
    exact H.len (hk j (xs[j]'(by omega)) _ (List.getElem?_eq_getElem _) (List.getElem?_eq_getElem hj))
  have hr' := hr
  rcases hr.2 with ⟨rfl, hn⟩ | ⟨g, cap, cur, rfl, hB, hg, hnc, hcm, hcur, htake⟩
  · obtain rfl : xs = [] := List.eq_nil_of_length_eq_zero hn
    exact .nil
  · refine ⟨some ⟨g, 0, none⟩, cap, rfl, hnc, hcm, .inr ⟨g, 0, rfl, .inr rfl, (Array.getElem?_eq_some_iff.1 hg).1, fun j x hx => ?_⟩⟩
    have hj : j < css.length := by rw [hl]; exact (List.getElem?_eq_some_iff.1 hx).1
    refine ⟨css[j], H.mono (hk j x _ hx (List.getElem?_eq_getElem hj)) (fun k h => .inl h), hcs _ (List.getElem_mem hj), fun i u hu => ?_⟩
    have := hr'.cells (g := g) rfl (j * sz + i) u (flatten_get css hcs j _ (List.getElem?_eq_getElem hj) i u hu)
    rwa [show (⟨g, 0, none⟩ : Addr).add (j * sz + i) = ⟨g, 0 + (j * sz + i), none⟩ by unfold Addr.add; split <;> simp_all] at this
theorem OwnK.move (H : KOk K sz) (h : OwnK K sz e w B ok v xs) (hm : ∀ k, k < w.heap.size → (ok k ∨ v.ownBlock = some k) → w'.heap[k]? = w.heap[k]?) (hsz : w.heap.size ≤ w'.heap.size) : OwnK K sz e w' B ok v xs := by
  obtain ⟨h0, css, hr, hl, hk⟩ := h
  refine ⟨fun k hk => ⟨by have := (h0 k hk).1; omega, (h0 k hk).2⟩, css, ⟨hr.1, ?_⟩, hl, fun j x cs hx hc => H.move (hk j x cs hx hc) (fun k hk => hm k (h0 k hk).1 (.inl hk))⟩
  rcases hr.2 with hn | ⟨g, cap, cur, rfl, hB, hg, rest⟩
  · exact .inl hn
  · exact .inr ⟨g, cap, cur, rfl, hB, (hm g (Array.getElem?_eq_some_iff.1 hg).1 (.inr rfl)).trans hg, rest⟩
theorem OwnK.alloc (H : KOk K sz) (h : OwnK K sz e w B ok v xs) (o : Obj) : OwnK K sz e (w.alloc o) B ok v xs := h.move H (fun _ hk _ => Below.heap_alloc _ _ _ hk) (by simp)
theorem OwnK.slice (h : OwnK K sz e w B ok v xs) : ∃ A c, v = .slice A xs.length c ∧ xs.length ≤ c := by
  obtain ⟨_, css, hr, _⟩ := h
  rcases hr.2 with ⟨rfl, hn⟩ | ⟨g, cap, cur, rfl, hB, hg, hnc, _⟩
  · exact ⟨none, 0, by rw [hn], by omega⟩
  · exact ⟨_, cap, rfl, hnc⟩
theorem OwnK.own (h : OwnK K sz e w B ok v xs) : ∀ k, v.ownBlock = some k → B ≤ k ∧ k < w.heap.size := by
  obtain ⟨_, css, hr, _⟩ := h
  exact hr.lt
/-- A fresh row, empty, with room. -/
theorem OwnK.made {cur : Array Value} {cap : Nat} (h : ∀ k, ok k → k < w.heap.size) (hB : B ≤ w.heap.size) (hm : cap ≤ maxLen) (hs : cur.size = cap * sz) :
    OwnK K sz e (w.alloc (.cells cur e)) B ok (.slice (some ⟨w.heap.size, 0, none⟩) 0 cap) ([] : List α) :=
  ⟨fun k hk => ⟨by have := h k hk; simp; omega, by have := h k hk; simp [Value.ownBlock]; omega⟩, [], World.ownsRow_made w cur cap hB hm hs, rfl, fun j x cs h => by simp at h⟩
end

/-- append(v, x), behind the box of x: the goal's world is 'W.alloc' of that box. -/
theorem append_k {α : Type} {P : Program} {ops : Array Oper} {rest : List Oper} {o : Oper} {a : Act} {Q : Exit → Act → World → Prop} {K : KRel α} {sz : Nat} {W : World} (H : KOk K sz)
    (hgd : o.guard = none) (s x : Operand) (t e : TypeId) (z : Value) (bytes B : Nat) (ok : Nat → Prop)
    (ho : o.op = .call { callee := .builtin .append, args := #[s, x], argTypes := #[t, t] })
    (ht : P.underlying t = some (.slice e)) (hinfo : (P.info? e).map (fun i => (i.zero, i.size, i.bytes)) = some (some z, sz, bytes)) (hz : z.cells.size = sz) (hsz : 0 < sz) (hb0 : 0 < bytes)
    (v : Value) (xs : List α) (y : α) (cs : Array Value) (hs : a.eval s = v) (hx : a.eval x = .slice (some ⟨W.heap.size, 0, none⟩) 1 1) (h1 : ∀ u ∈ cs.toList, u.oneCell' = true)
    (HO : OwnK K sz e W B ok v xs) (hy : K W ok y cs.toList) (hB : B ≤ W.heap.size) (hl : (xs.length + 1) * bytes ≤ 140737488355328)
    (h : ∀ v1 w1, OwnK K sz e w1 B ok v1 (xs ++ [y]) → W.grownBy w1 v.ownBlock → (v1.ownBlock = v.ownBlock ∨ ∃ b, v1.ownBlock = some b ∧ W.heap.size ≤ b) → wpList P ops Q rest (a.put o.dst v1) w1) :
    wpList P ops Q (o :: rest) a (W.alloc (.cells cs e)) := by
  obtain ⟨i0, hi, hzz⟩ := Option.map_eq_some_iff.1 hinfo
  simp only [Prod.mk.injEq] at hzz
  obtain ⟨hz0, hz1, hz2⟩ := hzz
  obtain ⟨h0, css, hr, hcl, hk⟩ := HO
  have hcs : cs.toList.length = sz := H.len hy
  have hlen : xs.length + 1 ≤ 140737488355328 := Nat.le_trans (Nat.le_mul_of_pos_right _ hb0) hl
  refine wpList_append_own_at (W.alloc (.cells cs e)) hgd s x t ho B e i0 z sz bytes ht hi hz0 hz1 hz2 hz hsz v xs.length css.flatten hs (hr.alloc _) ⟨W.heap.size, 0, none⟩ 1 1 cs.toList hx (by rw [Nat.one_mul]; exact hcs)
    (World.news_of_block (cs := cs) (t := e) (fr := (0, 0)) (heap_alloc_new W _)) h1 (by simp only [maxLen]; omega) hl (by simp; omega) ?_
  intro v1 w1 hown hg _ hat
  have hg' : W.grownBy w1 v.ownBlock := World.grownBy.trans (World.grownBy_alloc W _ _) hg
  have hne : ∀ k, ok k → v1.ownBlock ≠ some k := fun k hk he => by
    rcases hat with hat | hat
    · exact (h0 k hk).2 (hat ▸ he)
    · rw [hat] at he; have := (h0 k hk).1; simp at he; omega
  refine h v1 w1 ⟨fun k hk => ⟨Nat.lt_of_lt_of_le (h0 k hk).1 hg'.size, hne k hk⟩, css ++ [cs.toList], ?_, by simp [hcl], fun j p q hp hq => ?_⟩ hg' ?_
  · simpa using hown
  · have hmv : ∀ k, ok k → w1.heap[k]? = W.heap[k]? := fun k hk => hg'.block k (h0 k hk).1 (fun e => (h0 k hk).2 e.symm)
    rcases Nat.lt_or_ge j xs.length with hj | hj
    · rw [List.getElem?_append_left hj] at hp
      rw [List.getElem?_append_left (by omega)] at hq
      exact H.move (hk j p q hp hq) hmv
    · have hj' : j = xs.length := by
        have := (List.getElem?_eq_some_iff.1 hp).1
        simp at this; omega
      subst hj'
      simp at hp
      rw [← hcl] at hq
      simp at hq
      subst hp; subst hq
      exact H.move hy hmv
  · rcases hat with hat | hat
    · exact .inl hat
    · exact .inr ⟨_, hat, by simp⟩
/-- append(v, ys...): ys read by SlK, nil let in. -/
theorem append_row_k {α : Type} {P : Program} {ops : Array Oper} {rest : List Oper} {o : Oper} {a : Act} {Q : Exit → Act → World → Prop} {K : KRel α} {sz : Nat} {W : World} (H : KOk K sz)
    (hgd : o.guard = none) (s x : Operand) (t e : TypeId) (z : Value) (bytes B : Nat) (ok ok2 : Nat → Prop) (hsub : ∀ y cs, K W ok2 y cs → K W ok y cs)
    (ho : o.op = .call { callee := .builtin .append, args := #[s, x], argTypes := #[t, t] })
    (ht : P.underlying t = some (.slice e)) (hinfo : (P.info? e).map (fun i => (i.zero, i.size, i.bytes)) = some (some z, sz, bytes)) (hz : z.cells.size = sz) (hsz : 0 < sz) (hb0 : 0 < bytes)
    (v vx : Value) (xs ys : List α) (hs : a.eval s = v) (hx : a.eval x = vx) (h1 : ∀ w ok y cs, K w ok y cs → ∀ u ∈ cs, u.oneCell' = true)
    (HO : OwnK K sz e W B ok v xs) (HR : SlK K sz W ok2 vx ys) (hB : B ≤ W.heap.size) (hl : (xs.length + ys.length) * bytes ≤ 140737488355328)
    (h : ∀ v1 w1, OwnK K sz e w1 B ok v1 (xs ++ ys) → W.grownBy w1 v.ownBlock → (v1.ownBlock = v.ownBlock ∨ ∃ b, v1.ownBlock = some b ∧ W.heap.size ≤ b) → wpList P ops Q rest (a.put o.dst v1) w1) :
    wpList P ops Q (o :: rest) a W := by
  obtain ⟨i0, hi, hzz⟩ := Option.map_eq_some_iff.1 hinfo
  simp only [Prod.mk.injEq] at hzz
  obtain ⟨hz0, hz1, hz2⟩ := hzz
  have HO' := HO
  obtain ⟨h0, css, hr, hcl, hk⟩ := HO
  obtain ⟨A, c, rfl, hnc, hcm, hrd⟩ := HR
  have hlen : xs.length + ys.length ≤ 140737488355328 := Nat.le_trans (Nat.le_mul_of_pos_right _ hb0) hl
  rcases hrd with rfl | ⟨b, off, rfl, hb, hbl, hce⟩
  · -- nothing comes
    have hrun : (Builtin.append_ #[t, t] o.type #[v, .slice A 0 c]).run P W = .ok v W := by
      rcases hr.2 with ⟨rfl, hn⟩ | ⟨g, cap, cur, rfl, _, hg, hn, _⟩
      · cases A <;> simp [Builtin.append_, run_underlying ht, sizeOf, typeInfo, hi, Builtin.lenOf, Builtin.firstCells, loadCells, loadCellsFrom]
      · cases A <;> simp [Builtin.append_, run_underlying ht, sizeOf, typeInfo, hi, Builtin.lenOf, Builtin.firstCells, loadCells, loadCellsFrom, hn, storeCells]
    refine wpList_plain hgd fun K' hK' => ?_
    unfold Oper.wp execOp
    simp only [ho, resolve, invoke, builtin, Sem.run_bind, Sem.run_pure, Result.andThen_ok, List.map_toArray, List.map_cons, List.map_nil, hs, hx, List.length_nil, hrun]
    exact hK' _ _ (h v W (by simpa using HO') (World.grownBy.refl W _) (.inl rfl))
  · have hex : ∀ n, n ≤ ys.length → ∃ cs2 : List (List Value), cs2.length = n ∧ ∀ (j : Nat) (y : α) (q : List Value), ys[j]? = some y → cs2[j]? = some q → K W ok2 y q ∧ q.length = sz ∧ ∀ (i : Nat) (u : Value), q[i]? = some u → W.cell? ⟨b, off + (j * sz + i), none⟩ = some u := by
      intro n
      induction n with
      | zero => intro _; exact ⟨[], rfl, fun j y q _ hq => by simp at hq⟩
      | succ n ih =>
        intro hn
        obtain ⟨cs2, hl2, hp⟩ := ih (by omega)
        obtain ⟨q, hq1, hq2, hq3⟩ := hce n _ (List.getElem?_eq_getElem (show n < ys.length by omega))
        refine ⟨cs2 ++ [q], by simp [hl2], fun j y q' hy hq' => ?_⟩
        rcases Nat.lt_or_ge j n with hj | hj
        · rw [List.getElem?_append_left (by omega)] at hq'
          exact hp j y q' hy hq'
        · have hj' : j = n := by
            have := (List.getElem?_eq_some_iff.1 hq').1
            simp at this; omega
          subst hj'
          rw [← hl2] at hq'
          simp at hq'
          subst hq'
          rw [List.getElem?_eq_getElem (show j < ys.length by omega)] at hy
          cases hy
          exact ⟨hq1, hq2, hq3⟩
    obtain ⟨cs2, hl2, hp⟩ := hex ys.length (Nat.le_refl _)
    have hp' : ∀ (j : Nat) (hj : j < ys.length), K W ok2 (ys[j]'hj) (cs2[j]'(by omega)) ∧ (cs2[j]'(by omega)).length = sz ∧ ∀ (i : Nat) (u : Value), (cs2[j]'(by omega))[i]? = some u → W.cell? ⟨b, off + (j * sz + i), none⟩ = some u :=
      fun j hj => hp j _ _ (List.getElem?_eq_getElem hj) (List.getElem?_eq_getElem (by omega))
    have hall : ∀ q ∈ cs2, q.length = sz := by
      intro q hq
      obtain ⟨j, hj, rfl⟩ := List.mem_iff_getElem.1 hq
      exact (hp' j (by omega)).2.1
    have hfl : ∀ l : List (List Value), (∀ q ∈ l, q.length = sz) → l.flatten.length = l.length * sz := by
      intro l
      induction l with
      | nil => intro _; simp
      | cons q r ih => intro hq; simp only [List.flatten_cons, List.length_append, List.length_cons, hq q (by simp), ih (fun c hc => hq c (List.mem_cons_of_mem _ hc)), Nat.add_mul, Nat.one_mul]; omega
    have hnews : ∀ j u, cs2.flatten[j]? = some u → W.cell? ((⟨b, off, none⟩ : Addr).add j) = some u := by
      intro j u hu
      have hjl : j < cs2.flatten.length := (List.getElem?_eq_some_iff.1 hu).1
      rw [hfl cs2 hall, hl2] at hjl
      have hq : j / sz < ys.length := Nat.div_lt_of_lt_mul (by rw [Nat.mul_comm]; exact hjl)
      have hr2 := Nat.mod_lt j hsz
      have hd : j / sz * sz + j % sz = j := by rw [Nat.mul_comm]; exact Nat.div_add_mod j sz
      have hin : j % sz < (cs2[j / sz]'(by omega)).length := by rw [(hp' _ hq).2.1]; exact hr2
      have hf := flatten_get cs2 hall (j / sz) _ (List.getElem?_eq_getElem (by omega)) (j % sz) _ (List.getElem?_eq_getElem hin)
      rw [hd, hu] at hf
      cases hf
      have := (hp' _ hq).2.2 (j % sz) _ (List.getElem?_eq_getElem hin)
      rw [hd] at this
      rw [show (⟨b, off, none⟩ : Addr).add j = ⟨b, off + j, none⟩ by unfold Addr.add; split <;> simp_all]
      exact this
    have hone : ∀ u ∈ cs2.flatten, u.oneCell' = true := by
      intro u hu
      obtain ⟨q, hq, huq⟩ := List.mem_flatten.1 hu
      obtain ⟨j, hj, rfl⟩ := List.mem_iff_getElem.1 hq
      exact h1 _ _ _ _ (hp' j (by omega)).1 u huq
    refine wpList_append_own_at W hgd s x t ho B e i0 z sz bytes ht hi hz0 hz1 hz2 hz hsz v xs.length css.flatten hs hr ⟨b, off, none⟩ ys.length c cs2.flatten hx (by rw [hfl cs2 hall, hl2]) hnews hone (by simp only [maxLen]; omega) hl hB ?_
    intro v1 w1 hown hg' _ hat
    have hne : ∀ k, ok k → v1.ownBlock ≠ some k := fun k hk he => by
      rcases hat with hat | hat
      · exact (h0 k hk).2 (hat ▸ he)
      · rw [hat] at he; have := (h0 k hk).1; simp at he; omega
    have hmv : ∀ k, ok k → w1.heap[k]? = W.heap[k]? := fun k hk => hg'.block k (h0 k hk).1 (fun e => (h0 k hk).2 e.symm)
    refine h v1 w1 ⟨fun k hk => ⟨Nat.lt_of_lt_of_le (h0 k hk).1 hg'.size, hne k hk⟩, css ++ cs2, ?_, by simp [hcl, hl2], fun j p q hp1 hq => ?_⟩ hg' ?_
    · simpa using hown
    · rcases Nat.lt_or_ge j xs.length with hj | hj
      · rw [List.getElem?_append_left hj] at hp1
        rw [List.getElem?_append_left (by omega)] at hq
        exact H.move (hk j p q hp1 hq) hmv
      · rw [List.getElem?_append_right hj] at hp1
        rw [List.getElem?_append_right (by omega), hcl] at hq
        exact H.move (hsub _ _ (hp _ p q hp1 hq).1) hmv
    · rcases hat with hat | hat
      · exact .inl hat
      · exact .inr ⟨_, hat, Nat.le_refl _⟩
end Go.Proofs.YtdceflgemhcgcaaGreatDoor

namespace Go.Proofs.YtdceflgemhcgcaaGreatDoor
open Go.RowKit

structure Lab where
  key : ByteArray
  val : ByteArray
deriving DecidableEq
def labC (l : Lab) : List Value := [.string l.key, .string l.val]
abbrev labK : KRel Lab := Flat labC
theorem labOk : KOk labK 2 := flatOk fun _ => rfl
structure Itm where
  name : ByteArray
  n : Int
deriving DecidableEq
def itmC (l : Itm) : List Value := [.string l.name, .int .i64 l.n]
abbrev itmK : KRel Itm := Flat itmC
theorem itmOk : KOk itmK 2 := flatOk fun _ => rfl
structure Tnt where
  key : ByteArray
  val : ByteArray
  eff : ByteArray
deriving DecidableEq
def tntC (l : Tnt) : List Value := [.string l.key, .string l.val, .string l.eff]
abbrev tntK : KRel Tnt := Flat tntC
theorem tntOk : KOk tntK 3 := flatOk fun _ => rfl
structure Tol where
  key : ByteArray
  op : ByteArray
  val : ByteArray
  eff : ByteArray
deriving DecidableEq
def tolC (l : Tol) : List Value := [.string l.key, .string l.op, .string l.val, .string l.eff]
abbrev tolK : KRel Tol := Flat tolC
theorem tolOk : KOk tolK 4 := flatOk fun _ => rfl
structure Apt where
  topo : ByteArray
  sel : ByteArray
deriving DecidableEq
def aptC (l : Apt) : List Value := [.string l.topo, .string l.sel]
abbrev aptK : KRel Apt := Flat aptC
theorem aptOk : KOk aptK 2 := flatOk fun _ => rfl
structure Prf where
  weight : Int
  text : ByteArray
deriving DecidableEq
def prfC (l : Prf) : List Value := [.int .i64 l.weight, .string l.text]
abbrev prfK : KRel Prf := Flat prfC
theorem prfOk : KOk prfK 2 := flatOk fun _ => rfl
def strC (s : ByteArray) : List Value := [.string s]
abbrev strsK : KRel ByteArray := Flat strC
theorem strOk : KOk strsK 1 := flatOk fun _ => rfl
def intC (s : Int) : List Value := [.int .i64 s]
abbrev intsK : KRel Int := Flat intC
theorem intOk : KOk intsK 1 := flatOk fun _ => rfl

structure Nod where
  name : ByteArray
  labels : List Lab
  taints : List Tnt
  cap : List Itm
  cord : Bool
deriving DecidableEq
def nodK : KRel Nod := fun w ok x cs => ∃ vl vt vc, cs = [.string x.name, vl, vt, vc, .bool x.cord] ∧ SlK labK 2 w ok vl x.labels ∧ SlK tntK 3 w ok vt x.taints ∧ SlK itmK 2 w ok vc x.cap
theorem nodOk : KOk nodK 5 where
  len := fun ⟨_, _, _, h, _⟩ => by rw [h]; rfl
  move := fun ⟨vl, vt, vc, h, h1, h2, h3⟩ hm => ⟨vl, vt, vc, h, h1.move labOk hm, h2.move tntOk hm, h3.move itmOk hm⟩
  mono := fun ⟨vl, vt, vc, h, h1, h2, h3⟩ hm => ⟨vl, vt, vc, h, h1.mono labOk hm, h2.mono tntOk hm, h3.mono itmOk hm⟩
  bnd := fun ⟨vl, vt, vc, h, h1, h2, h3⟩ => ⟨vl, vt, vc, h, h1.bnd labOk, h2.bnd tntOk, h3.bnd itmOk⟩
structure Pd where
  name : ByteArray
  labels : List Lab
  needs : List Itm
  tols : List Tol
  req : ByteArray
  apart : List Apt
  prefer : List Prf
  prio : Int
deriving DecidableEq
def pdK : KRel Pd := fun w ok x cs => ∃ vl vn vt va vp, cs = [.string x.name, vl, vn, vt, .string x.req, va, vp, .int .i64 x.prio] ∧ SlK labK 2 w ok vl x.labels ∧ SlK itmK 2 w ok vn x.needs ∧ SlK tolK 4 w ok vt x.tols ∧
  SlK aptK 2 w ok va x.apart ∧ SlK prfK 2 w ok vp x.prefer
theorem pdOk : KOk pdK 8 where
  len := fun ⟨_, _, _, _, _, h, _⟩ => by rw [h]; rfl
  move := fun ⟨vl, vn, vt, va, vp, h, h1, h2, h3, h4, h5⟩ hm => ⟨vl, vn, vt, va, vp, h, h1.move labOk hm, h2.move itmOk hm, h3.move tolOk hm, h4.move aptOk hm, h5.move prfOk hm⟩
  mono := fun ⟨vl, vn, vt, va, vp, h, h1, h2, h3, h4, h5⟩ hm => ⟨vl, vn, vt, va, vp, h, h1.mono labOk hm, h2.mono itmOk hm, h3.mono tolOk hm, h4.mono aptOk hm, h5.mono prfOk hm⟩
  bnd := fun ⟨vl, vn, vt, va, vp, h, h1, h2, h3, h4, h5⟩ => ⟨vl, vn, vt, va, vp, h, h1.bnd labOk, h2.bnd itmOk, h3.bnd tolOk, h4.bnd aptOk, h5.bnd prfOk⟩
structure Chg where
  kind : Int
  slot : Int
  podSlot : Int
  was : Nod
  now : Nod
  pod : Pd
deriving DecidableEq
def chgK : KRel Chg := fun w ok x cs => ∃ c1 c2 c3, cs = [.int .i64 x.kind, .int .i64 x.slot, .int .i64 x.podSlot] ++ (c1 ++ (c2 ++ c3)) ∧ nodK w ok x.was c1 ∧ nodK w ok x.now c2 ∧ pdK w ok x.pod c3
theorem chgOk : KOk chgK 21 where
  len := fun ⟨c1, c2, c3, h, h1, h2, h3⟩ => by rw [h]; simp [nodOk.len h1, nodOk.len h2, pdOk.len h3]
  move := fun ⟨c1, c2, c3, h, h1, h2, h3⟩ hm => ⟨c1, c2, c3, h, nodOk.move h1 hm, nodOk.move h2 hm, pdOk.move h3 hm⟩
  mono := fun ⟨c1, c2, c3, h, h1, h2, h3⟩ hm => ⟨c1, c2, c3, h, nodOk.mono h1 hm, nodOk.mono h2 hm, pdOk.mono h3 hm⟩
  bnd := fun ⟨c1, c2, c3, h, h1, h2, h3⟩ => ⟨c1, c2, c3, h, nodOk.bnd h1, nodOk.bnd h2, pdOk.bnd h3⟩

/-! ### the reference's domains -/
/-! ### reading elements -/
section
variable {w : World} {ok : Nat → Prop} {v : Value}
/-- Behind a world that left the blocks of 'ok' alone. -/
theorem SlK.below {α : Type} {K : KRel α} {sz : Nat} {w' : World} {xs : List α} (H : KOk K sz) {B : Nat} (h : SlK K sz w ok v xs) (hb : Below B w w') (hok : ∀ k, ok k → k < B) : SlK K sz w' ok v xs :=
  h.move H (fun k hk => hb.block k (hok k hk))
theorem SlK.mod {α : Type} {K : KRel α} {sz : Nat} {w' : World} {xs : List α} (H : KOk K sz) {S : Nat → Prop} (h : SlK K sz w ok v xs) (hb : Mod S w w') (hok : ∀ k, ok k → k < w.heap.size ∧ ¬ S k) : SlK K sz w' ok v xs :=
  h.move H (fun k hk => hb.block k (hok k hk).1 (hok k hk).2)
end
end Go.Proofs.YtdceflgemhcgcaaGreatDoor

namespace Go.Proofs.YtdceflgemhcgcaaGreatDoor
open Go.RowKit

/-- An act. -/
structure ActD where
  kind : Int
  name : ByteArray
  key : ByteArray
  val : ByteArray
  on : Bool
  node : Nod
  taint : Tnt
  cap : List Itm
  pod : Pd
deriving DecidableEq
def actK : KRel ActD := fun w ok x cs => ∃ c1 vc c2, cs = [.int .i64 x.kind, .string x.name, .string x.key, .string x.val, .bool x.on] ++ (c1 ++ ([.string x.taint.key, .string x.taint.val, .string x.taint.eff, vc] ++ c2)) ∧ nodK w ok x.node c1 ∧ SlK itmK 2 w ok vc x.cap ∧ pdK w ok x.pod c2
end Go.Proofs.YtdceflgemhcgcaaGreatDoor
