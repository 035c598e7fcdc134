/-
  From a statement's reading of an argument to the relations that the walks speak of: structs of cells, slices of structs; sizes by the reading's bulk. No condition.
-/
import Derived.Test.YtdceflgemhcgcaaGreatDoorP03
import Derived.Test.YtdceflgemhcgcaaGreatDoorP12
import Derived.Test.YtdceflgemhcgcaaGreatDoorRows
import Derived.Deep.Slices
import Derived.OpenShut
set_option linter.unusedVariables false
set_option linter.unusedSimpArgs false
namespace Go.Proofs.YtdceflgemhcgcaaGreatDoor
open Go.RowKit Go.Deep Go.OpenShut

theorem bulk_pos {H : Type} : ∀ d : DataW H, 1 ≤ Rows.uptoBulk d
  | .lit (.string _) => by simp [Rows.uptoBulk]
  | .lit (.bool _) => by simp [Rows.uptoBulk]
  | .lit (.int _ _) => by simp [Rows.uptoBulk]
  | .lit (.float _ _) => by simp [Rows.uptoBulk]
  | .lit .nil => by simp [Rows.uptoBulk]
  | .nil => by simp [Rows.uptoBulk]
  | .ptr _ => by simp [Rows.uptoBulk]
  | .slice _ _ => by simp [Rows.uptoBulk]
  | .agg _ => by simp [Rows.uptoBulk]
  | .iface _ _ => by simp [Rows.uptoBulk]
  | .map _ => by simp [Rows.uptoBulk]
  | .held _ => by simp [Rows.uptoBulk]
theorem bulkAll_mem {H : Type} {d : DataW H} : ∀ {l : List (DataW H)}, d ∈ l → Rows.uptoBulk d ≤ Rows.uptoBulkAll l
  | [], h => by cases h
  | a :: r, h => by
    simp only [Rows.uptoBulkAll]
    rcases List.mem_cons.1 h with e | e
    · subst e; omega
    · have := bulkAll_mem e; omega
theorem bulkAll_len {H : Type} : ∀ l : List (DataW H), l.length ≤ Rows.uptoBulkAll l
  | [] => by simp
  | a :: r => by
    simp only [Rows.uptoBulkAll, List.length_cons]
    have := bulk_pos a
    have := bulkAll_len r
    omega
theorem bulk_agg {H : Type} {d : DataW H} {l : List (DataW H)} (h : d ∈ l) : Rows.uptoBulk d ≤ Rows.uptoBulk (.agg l) := by
  have := bulkAll_mem h
  simp only [Rows.uptoBulk]
  omega
/-- The blocks of a world. -/
abbrev Lt (w : World) : Nat → Prop := fun k => k < w.heap.size
/-- Whatever is read of a type is such a datum; Q: what the reading's bulk says of it. -/
def Opens {α : Type} (K : KRel α) (t : TypeId) (Q : Nat → α → Prop) : Prop :=
  ∀ {H : Type} (enc : TypeId × Value → H) (w : World) (fuel : Nat) (cs : List Value) (x : DataW H × List MemPlace), DataW.trod enc Tryz.prog w 0 (fun _ => true) true fuel t cs = some x → ∃ a, K w (Lt w) a cs ∧ Q (Rows.uptoBulk x.1) a
/-- A slice as one cell. -/
def SlC {α : Type} (K : KRel α) (sz : Nat) : KRel (List α) := fun w ok xs cs => ∃ v, cs = [v] ∧ SlK K sz w ok v xs
def QAll {α : Type} (Q : Nat → α → Prop) : Nat → List α → Prop := fun n xs => xs.length ≤ n ∧ ∀ a ∈ xs, Q n a
theorem opens_slice {α : Type} {K : KRel α} {sz : Nat} {e t : TypeId} {Q : Nat → α → Prop} (hQ : ∀ n m a, n ≤ m → Q n a → Q m a) (HK : KOk K sz) (ht : Tryz.prog.underlying t = some (.slice e)) (hc : Tryz.prog.cellsOf e = sz) (hsz : 0 < sz)
    (h : Opens K e Q) : Opens (SlC K sz) t (QAll Q) := by
  intro H enc w fuel cs x hx
  rcases open_slice ht hx with ⟨rfl, rfl⟩ | ⟨a, len, cap, m, n, D, Pl, rfl, _, hlc, hcm, hm, rfl, hel⟩
  · exact ⟨[], ⟨_, rfl, SlK.nil⟩, by simp, fun _ h => by cases h⟩
  · simp only [if_true] at hm
    subst hm
    have hb : ∀ j, j < len → Rows.uptoBulk (D j) ≤ Rows.uptoBulk (DataW.slice ((List.range len).map D) ((List.range (m - len)).map fun j => D (len + j))) := by
      intro j hj
      have h1 : Rows.uptoBulk (D j) ≤ Rows.uptoBulkAll ((List.range len).map D) := bulkAll_mem (List.mem_map_of_mem (List.mem_range.2 hj))
      simp only [Rows.uptoBulk]
      omega
    have hl : len ≤ Rows.uptoBulk (DataW.slice ((List.range len).map D) ((List.range (m - len)).map fun j => D (len + j))) := by
      have := bulkAll_len ((List.range len).map D)
      simp only [List.length_map, List.length_range] at this
      simp only [Rows.uptoBulk]
      omega
    have hex : ∀ k, k ≤ len → ∃ xs : List α, xs.length = k ∧ ∀ j (hj : j < xs.length), ∃ cs', w.cells? 0 (a.add (j * sz)) sz = some cs' ∧ K w (Lt w) (xs[j]'hj) cs' ∧ Q (Rows.uptoBulk (D j)) (xs[j]'hj) := by
      intro k
      induction k with
      | zero => intro _; exact ⟨[], rfl, fun j hj => absurd hj (Nat.not_lt_zero _)⟩
      | succ k ih =>
        intro hk
        obtain ⟨xs, hxl, hxs⟩ := ih (by omega)
        obtain ⟨cs', hc1, hc2⟩ := hel k (by omega)
        obtain ⟨y, hy1, hy2⟩ := h enc w n cs' _ hc2
        rw [hc] at hc1
        refine ⟨xs ++ [y], by simp [hxl], fun j hj => ?_⟩
        rcases Nat.lt_or_ge j xs.length with hj2 | hj2
        · rw [List.getElem_append_left hj2]
          exact hxs j hj2
        · have : j = k := by simp at hj; omega
          subst this
          rw [List.getElem_append_right hj2]
          simp only [List.getElem_singleton]
          exact ⟨cs', hc1, hy1, hy2⟩
    obtain ⟨xs, hxl, hxs⟩ := hex len (Nat.le_refl _)
    refine ⟨xs, ⟨_, rfl, some a, m, by rw [hxl], by omega, hcm, ?_⟩, by rw [hxl]; exact hl, fun y hy => ?_⟩
    · by_cases h0 : len = 0
      · exact .inl (List.eq_nil_of_length_eq_zero (by omega))
      · right
        obtain ⟨cs0, hc0, _, _⟩ := hxs 0 (by omega)
        obtain ⟨b, off, spot⟩ := a
        have hcc := World.cells?_some hc0
        have hlt := Go.World.cells?_block hc0 hsz
        have hspot : spot = none := by
          have h1 := hcc.2.2 0 hsz
          have h2 : (cs0[0]?).isSome = true := by
            rw [List.getElem?_eq_getElem (by rw [hcc.2.1]; exact hsz)]; rfl
          obtain ⟨v0, hv0⟩ := Option.isSome_iff_exists.1 h2
          rw [hv0] at h1
          simpa [Addr.add] using World.cell?_spot h1
        subst hspot
        refine ⟨b, off, rfl, by simpa [Addr.add] using hlt, by simpa [Addr.add] using hlt, fun j y hy => ?_⟩
        have hj : j < xs.length := (List.getElem?_eq_some_iff.1 hy).1
        obtain ⟨cs', hc1, hk1, _⟩ := hxs j hj
        rw [List.getElem?_eq_getElem hj] at hy
        cases hy
        have hc2 := World.cells?_some hc1
        refine ⟨cs', hk1, hc2.2.1, fun i u hu => ?_⟩
        have hi : i < sz := by rw [← hc2.2.1]; exact (List.getElem?_eq_some_iff.1 hu).1
        have := hc2.2.2 i hi
        rw [add_add, Go.WideShapes.add_plain, hu] at this
        exact this
    · obtain ⟨j, hj, rfl⟩ := List.mem_iff_getElem.1 hy
      obtain ⟨_, _, _, hq⟩ := hxs j hj
      exact hQ _ _ _ (hb j (by omega)) hq
/-- One cell: a string. -/
theorem opens_string {H : Type} {enc : TypeId × Value → H} {w : World} {fuel : Nat} {cs : List Value} {x : DataW H × List MemPlace} {t : TypeId} (ht : Tryz.prog.underlying t = some .string) (h : DataW.trod enc Tryz.prog w 0 (fun _ => true) true fuel t cs = some x) : ∃ s : ByteArray, cs = [.string s] ∧ s.size ≤ Rows.uptoBulk x.1 := by
  obtain ⟨s, rfl, rfl, _⟩ := DataW.trod_string ht h
  refine ⟨s, rfl, ?_⟩
  simp only [Rows.uptoBulk]
  have : s.data.toList.length = s.size := Array.length_toList
  omega
theorem opens_int {H : Type} {enc : TypeId × Value → H} {w : World} {fuel : Nat} {cs : List Value} {x : DataW H × List MemPlace} {t : TypeId} (ht : Tryz.prog.underlying t = some (.int .i64)) (h : DataW.trod enc Tryz.prog w 0 (fun _ => true) true fuel t cs = some x) : ∃ n : Int, cs = [.int .i64 n] ∧ -9223372036854775808 ≤ n ∧ n ≤ 9223372036854775807 := by
  obtain ⟨n, rfl, rfl, hw⟩ := DataW.trod_int ht h
  refine ⟨n, rfl, ?_⟩
  exact bounds_i64 hw
theorem opens_bool {H : Type} {enc : TypeId × Value → H} {w : World} {fuel : Nat} {cs : List Value} {x : DataW H × List MemPlace} {t : TypeId} (ht : Tryz.prog.underlying t = some .bool) (h : DataW.trod enc Tryz.prog w 0 (fun _ => true) true fuel t cs = some x) : ∃ b : Bool, cs = [.bool b] := by
  obtain ⟨b, rfl, rfl⟩ := DataW.trod_bool ht h
  exact ⟨b, rfl⟩
/-- A field of a struct. -/
theorem opens_field {H : Type} {enc : TypeId × Value → H} {w : World} {fuel : Nat} {cs : List Value} {x : DataW H × List MemPlace} {t : TypeId} {fs : Array Field} (ht : Tryz.prog.underlying t = some (.struct fs)) (h : DataW.trod enc Tryz.prog w 0 (fun _ => true) true fuel t cs = some x) :
    cs.length = Tryz.prog.cellsOf t ∧ ∀ (i : Nat) (f : Field), fs[i]? = some f → ∀ (k : Nat), Tryz.prog.cellsOf f.type = k → ∃ n y, DataW.trod enc Tryz.prog w 0 (fun _ => true) true n f.type ((cs.drop f.offset).take k) = some y ∧ Rows.uptoBulk y.1 ≤ Rows.uptoBulk x.1 := by
  obtain ⟨xs, n, rfl, rfl, hl, hlen, hf⟩ := DataW.trod_struct ht h
  refine ⟨hl, fun i f hi k hk => ?_⟩
  have hil : i < fs.size := (Array.getElem?_eq_some_iff.1 hi).1
  have h1 := hf i f hi
  rw [List.getElem?_eq_getElem (by omega), hk] at h1
  exact ⟨n, _, h1, bulk_agg (List.mem_map_of_mem (List.getElem_mem _))⟩
theorem list_one {α : Type} {cs : List α} {k : Nat} {a : α} (h : (cs.drop k).take 1 = [a]) : cs[k]? = some a := by
  have := congrArg (fun l => l[0]?) h
  simp only [List.getElem?_take, List.getElem?_drop] at this
  simpa using this
theorem list_eq_of {α : Type} {l m : List α} (hl : l.length = m.length) (h : ∀ (i : Nat) (a : α), m[i]? = some a → l[i]? = some a) : l = m := by
  refine List.ext_getElem? fun i => ?_
  cases e : m[i]? with
  | none =>
    rw [List.getElem?_eq_none_iff] at e ⊢
    omega
  | some a => exact h i a e
def QLab (n : Nat) (l : Lab) : Prop := l.key.size ≤ n ∧ l.val.size ≤ n
theorem opens_lab : Opens labK 118 QLab := by
  intro H enc w fuel cs x hx
  obtain ⟨hl, hf⟩ := opens_field Tryz.underlying118 hx
  have hc : Tryz.prog.cellsOf 118 = 2 := by kernel_rfl
  rw [hc] at hl
  obtain ⟨n0, y0, h0, b0⟩ := hf 0 _ rfl 1 (by kernel_rfl)
  obtain ⟨n1, y1, h1, b1⟩ := hf 1 _ rfl 1 (by kernel_rfl)
  obtain ⟨s0, e0, z0⟩ := opens_string Tryz.underlying9 h0
  obtain ⟨s1, e1, z1⟩ := opens_string Tryz.underlying9 h1
  refine ⟨⟨s0, s1⟩, list_eq_of (by rw [hl]; rfl) (fun i a hi => ?_), by dsimp only; omega, by dsimp only; omega⟩
  match i, hi with
  | 0, hi => cases hi; exact list_one e0
  | 1, hi => cases hi; exact list_one e1
end Go.Proofs.YtdceflgemhcgcaaGreatDoor
