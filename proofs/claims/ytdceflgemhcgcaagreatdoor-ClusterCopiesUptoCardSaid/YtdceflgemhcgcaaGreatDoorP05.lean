/-
  Rows of a table, in memory: a row of one's own of which one element is written over. Plain lemmas; no program is walked.
-/
import Derived.Test.YtdceflgemhcgcaaGreatDoorP03
import Derived.Deep.MidRow
import Derived.Deep.Upon
set_option linter.unusedVariables false
set_option linter.unusedSimpArgs false
namespace Go.Proofs.YtdceflgemhcgcaaGreatDoor
open Go.RowKit

theorem hkeep {w : World} {k : Nat} {o : Obj} (h : w.heap[k]? = some o) (o' : Obj) : (w.alloc o').heap[k]? = some o := (Below.heap_alloc _ _ _ (Array.getElem?_eq_some_iff.1 h).1).trans h

structure SRow (α : Type) where
  held : Bool
  name : ByteArray
  thing : α
def rowK {α : Type} (K : KRel α) : KRel (SRow α) := fun w ok x cs => ∃ c, cs = .bool x.held :: .string x.name :: c ∧ K w ok x.thing c
theorem rowOk {α : Type} {K : KRel α} {sz : Nat} (H : KOk K sz) : KOk (rowK K) (sz + 2) where
  len := fun ⟨c, h, h1⟩ => by rw [h]; simp [H.len h1]
  move := fun ⟨c, h, h1⟩ hm => ⟨c, h, H.move h1 hm⟩
  mono := fun ⟨c, h, h1⟩ hm => ⟨c, h, H.mono h1 hm⟩
  bnd := fun ⟨c, h, h1⟩ => ⟨c, h, H.bnd h1⟩

def putAt (cur : Array Value) : Nat → List Value → Array Value
  | _, [] => cur
  | o, v :: r => putAt (cur.setIfInBounds o v) (o + 1) r
theorem putAt_size : ∀ (vs : List Value) (cur : Array Value) (o : Nat), (putAt cur o vs).size = cur.size
  | [], _, _ => rfl
  | v :: r, cur, o => by rw [putAt, putAt_size r]; simp
theorem putAt_out : ∀ (vs : List Value) (cur : Array Value) (o i : Nat), (i < o ∨ o + vs.length ≤ i) → (putAt cur o vs)[i]? = cur[i]?
  | [], _, _, _, _ => rfl
  | v :: r, cur, o, i, h => by
    rw [putAt, putAt_out r _ _ _ (by simp at h; omega)]
    have : o ≠ i := by simp at h; omega
    simp [Array.getElem?_setIfInBounds, this]
theorem putAt_in : ∀ (vs : List Value) (cur : Array Value) (o i : Nat), o + vs.length ≤ cur.size → i < vs.length → (putAt cur o vs)[o + i]? = vs[i]?
  | v :: r, cur, o, 0, h, _ => by
    rw [putAt, putAt_out r _ _ _ (by simp)]
    have : o < cur.size := by simp at h; omega
    simp [Array.getElem?_setIfInBounds, this]
  | v :: r, cur, o, i + 1, h, hi => by
    rw [putAt, show o + (i + 1) = o + 1 + i by omega, putAt_in r _ (o + 1) i (by simp at h ⊢; omega) (by simpa using hi)]
    rfl
theorem heap_setCells {w : World} {g : Nat} {e : TypeId} : ∀ (vs : List Value) (o : Nat) {w : World} {cur : Array Value}, w.heap[g]? = some (.cells cur e (0, 0)) → (w.setCells g o vs).heap[g]? = some (.cells (putAt cur o vs) e (0, 0))
  | [], _, _, _, h => h
  | v :: r, o, w, cur, h => by
    rw [World.setCells, putAt]
    exact heap_setCells (w := w) r (o + 1) (heap_setCell_same w g o cur e v h)
theorem size_setCells_ (w : World) (g o : Nat) (vs : List Value) : (w.setCells g o vs).heap.size = w.heap.size := by
  induction vs generalizing w o with
  | nil => rfl
  | cons v r ih => rw [World.setCells, ih]; unfold World.setCell; split <;> simp
theorem tape_setCells_ (w : World) (g o : Nat) (vs : List Value) : (w.setCells g o vs).tape = w.tape := by
  induction vs generalizing w o with
  | nil => rfl
  | cons v r ih => rw [World.setCells, ih]; unfold World.setCell; split <;> rfl
theorem mod_setCells (w : World) (g o : Nat) (vs : List Value) : Mod (fun k => k = g) w (w.setCells g o vs) where
  os := World.os_setCells w g o vs
  tape := tape_setCells_ w g o vs
  output := World.output_setCells w g o vs
  size := Nat.le_of_eq (size_setCells_ w g o vs).symm
  block := fun k hk h => World.heap_setCells_other w g o vs hk h

section
variable {α : Type} {K : KRel α} {sz : Nat} {e : TypeId} {w w' : World} {B : Nat} {ok ok' : Nat → Prop} {xs : List α} {g n c : Nat}
theorem OwnK.css_len (H : KOk K sz) {css : List (List Value)} (hl : css.length = xs.length) (hk : ∀ (j : Nat) (x : α) (cs : List Value), xs[j]? = some x → css[j]? = some cs → K w ok x cs) : ∀ c ∈ css, c.length = sz := by
  intro c hc
  obtain ⟨j, hj, rfl⟩ := List.mem_iff_getElem.1 hc
  exact H.len (hk j (xs[j]'(by omega)) _ (List.getElem?_eq_getElem _) (List.getElem?_eq_getElem hj))
theorem OwnK.there (h : OwnK K sz e w B ok (.slice (some ⟨g, 0, none⟩) n c) xs) {j : Nat} (hj : j < xs.length) : w.there g (j * sz) sz := by
  obtain ⟨h0, css, hr, hl, hk⟩ := h
  rcases hr.2 with ⟨he, _⟩ | ⟨g', cap, cur, he, hB, hg, hnc, hcm, hcur, htake⟩
  · cases he
  · simp only [Value.slice.injEq, Option.some.injEq, Addr.mk.injEq, and_true] at he
    obtain ⟨rfl, rfl, rfl⟩ := he
    intro i hi
    have hlt : j * sz + i < cur.size := by
      rw [hcur]
      have h1 : (j + 1) * sz ≤ c * sz := Nat.mul_le_mul_right _ (by omega)
      rw [Nat.add_mul] at h1
      omega
    constructor
    · simp [World.cell?, hg, hlt]
    · simp [World.frozen?, hg]
/-- One element is written over. -/
theorem OwnK.set (H : KOk K sz) (hsz : 0 < sz) (h : OwnK K sz e w B ok (.slice (some ⟨g, 0, none⟩) n c) xs) {j : Nat} (hj : j < xs.length) {y : α} {cs : List Value} (hy : K w ok y cs) :
    OwnK K sz e (w.setCells g (j * sz) cs) B ok (.slice (some ⟨g, 0, none⟩) n c) (xs.set j y) := by
  obtain ⟨h0, css, hr, hl, hk⟩ := h
  have hcs := OwnK.css_len H hl hk
  have hcl : cs.length = sz := H.len hy
  have hmv : ∀ k, ok k → (w.setCells g (j * sz) cs).heap[k]? = w.heap[k]? := fun k hk => World.heap_setCells_other w g _ _ (h0 k hk).1 (fun e => (h0 k hk).2 (by rw [e]; rfl))
  rcases hr.2 with ⟨he, _⟩ | ⟨g', cap, cur, he, hB, hg, hnc, hcm, hcur, htake⟩
  · cases he
  · simp only [Value.slice.injEq, Option.some.injEq, Addr.mk.injEq, and_true] at he
    obtain ⟨rfl, rfl, rfl⟩ := he
    have hjc : j * sz + sz ≤ xs.length * sz := by
      have h1 : (j + 1) * sz ≤ xs.length * sz := Nat.mul_le_mul_right _ (by omega)
      rwa [Nat.add_mul, Nat.one_mul] at h1
    have hxc : xs.length * sz ≤ c * sz := Nat.mul_le_mul_right _ hnc
    have hcs' : ∀ d ∈ css.set j cs, d.length = sz := by
      intro d hd
      rcases List.mem_or_eq_of_mem_set hd with hd | rfl
      · exact hcs d hd
      · exact hcl
    have hfl : ∀ (ds : List (List Value)), (∀ d ∈ ds, d.length = sz) → ds.flatten.length = ds.length * sz := by
      intro ds
      induction ds with
      | nil => intro _; simp
      | cons d r ih =>
        intro hd
        rw [List.flatten_cons, List.length_append, hd d (by simp), ih (fun x hx => hd x (List.mem_cons_of_mem _ hx)), List.length_cons, Nat.add_mul]; omega
    have hn1 : (css.set j cs).flatten.length = xs.length * sz := by rw [hfl _ hcs', List.length_set, hl]
    refine ⟨fun k hk => ⟨by rw [size_setCells_]; exact (h0 k hk).1, (h0 k hk).2⟩, css.set j cs, ⟨by rw [List.length_set]; exact hn1, .inr ⟨g, c, putAt cur (j * sz) cs, by rw [List.length_set], hB, heap_setCells (w := w) cs _ hg, by rw [List.length_set]; exact hnc, hcm, by rw [putAt_size]; exact hcur, ?_⟩⟩, by rw [List.length_set, List.length_set]; exact hl, ?_⟩
    · rw [List.length_set]
      apply List.ext_getElem?
      intro q
      rw [List.getElem?_take]
      by_cases hq : q < xs.length * sz
      · rw [if_pos hq, Array.getElem?_toList]
        have hqd : q = q / sz * sz + q % sz := (Nat.div_add_mod' q sz).symm
        have hqm : q % sz < sz := Nat.mod_lt _ hsz
        have hqa : q / sz < css.length := by rw [hl]; exact (Nat.div_lt_iff_lt_mul hsz).2 hq
        have hat : ∀ (ds : List (List Value)), (∀ d ∈ ds, d.length = sz) → (ha : q / sz < ds.length) → ds.flatten[q]? = (ds[q / sz]'ha)[q % sz]? := by
          intro ds hd ha
          have hdl : (ds[q / sz]'ha).length = sz := hd _ (List.getElem_mem ha)
          have := flatten_get ds hd (q / sz) _ (List.getElem?_eq_getElem ha) (q % sz) _ (List.getElem?_eq_getElem (by rw [hdl]; exact hqm))
          rw [← hqd] at this
          rw [this, List.getElem?_eq_getElem (by rw [hdl]; exact hqm)]
        rw [hat _ hcs' (by rw [List.length_set]; exact hqa)]
        by_cases hqj : q / sz = j
        · have e1 : q = j * sz + q % sz := by rw [← hqj]; exact hqd
          have e2 : (css.set j cs)[q / sz]'(by rw [List.length_set]; exact hqa) = cs := by simp [hqj]
          rw [e2]
          conv => lhs; rw [e1]
          exact putAt_in cs cur (j * sz) (q % sz) (by rw [hcl, hcur]; omega) (by rw [hcl]; exact hqm)
        · have e2 : (css.set j cs)[q / sz]'(by rw [List.length_set]; exact hqa) = css[q / sz]'hqa := List.getElem_set_ne (fun e => hqj e.symm) _
          rw [e2, ← hat _ hcs hqa, putAt_out _ _ _ _ ?_, ← Array.getElem?_toList]
          · have := congrArg (fun l => l[q]?) htake
            simp only [List.getElem?_take, if_pos hq] at this
            exact this
          · rw [hcl]
            rcases Nat.lt_or_gt_of_ne hqj with hlt | hlt
            · left
              have h1 : (q / sz + 1) * sz ≤ j * sz := Nat.mul_le_mul_right _ hlt
              rw [Nat.add_mul, Nat.one_mul] at h1
              omega
            · right
              have h1 : (j + 1) * sz ≤ q / sz * sz := Nat.mul_le_mul_right _ hlt
              rw [Nat.add_mul, Nat.one_mul] at h1
              omega
      · rw [if_neg hq, List.getElem?_eq_none (by omega)]
    · intro i x d hx hd
      rw [List.getElem?_set] at hx hd
      by_cases hij : j = i
      · subst hij
        rw [if_pos rfl, if_pos (by omega)] at hx hd
        cases hx
        cases hd
        exact H.move hy hmv
      · rw [if_neg hij] at hx hd
        exact H.move (hk i x d hx hd) hmv
end
end Go.Proofs.YtdceflgemhcgcaaGreatDoor
