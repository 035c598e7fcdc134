/-
quant.has, berthref02.place.
berthref04.same, above.
Plain Lean: the order of texts, sorting by insertion, the first fault of a list; what the three Makes answer.
Plain Lean: picking the least that is left, time after time, is sorting.
Copies of rows: append([]T{}, l...), slices.Clone.
quant: lists that are as Make answers them; Check and cmp.Or say 0 of them; Get.
berthref06.SameTexts.
-/
import Derived.Test.YtdceflgemhcgcaaGreatDoorP12
import Derived.Test.YtdceflgemhcgcaaGreatDoorP11
import Derived.Lib.SliceRun
set_option linter.unusedVariables false
set_option linter.unusedSimpArgs false
namespace Go.Proofs.YtdceflgemhcgcaaGreatDoor
open Go.RowKit Go.BigFrame

/-- Is it the name? -/
def nmE (name : ByteArray) (x : Itm) : Int := if x.name = name then 1 else 0
def hasB (xs : List Itm) (name : ByteArray) : Bool := decide ((firstErr (nmE name) xs 0).2 ≠ 0)
def plcI (xs : List Itm) (name : ByteArray) : Int := if (firstErr (nmE name) xs 0).2 = 0 then -1 else (firstErr (nmE name) xs 0).1
theorem has_none {xs : List Itm} {name : ByteArray} (h : ∀ j (hj : j < xs.length), nmE name (xs[j]'hj) = 0) : hasB xs name = false ∧ plcI xs name = -1 := by
  unfold hasB plcI
  rw [firstErr_none 0 h]
  exact ⟨rfl, rfl⟩
theorem has_at {xs : List Itm} {name : ByteArray} {k : Nat} (hk : k < xs.length) (h : ∀ j (hj : j < xs.length), j < k → nmE name (xs[j]'hj) = 0) (he : nmE name (xs[k]'hk) ≠ 0) : hasB xs name = true ∧ plcI xs name = (k : Int) := by
  unfold hasB plcI
  rw [firstErr_at 0 k hk h he]
  refine ⟨by simpa using he, ?_⟩
  rw [if_neg (by simpa using he)]
  simp
set_option maxRecDepth 100000 in
set_option maxHeartbeats 4000000 in
theorem qhas_k (R : Ending → World → Prop) (w : World) (ok : Nat → Prop) (v : Value) (xs : List Itm) (name : ByteArray) (hok : ∀ k, ok k → k < w.heap.size) (hx : SlK itmK 2 w ok v xs) (hl : xs.length ≤ 1073741824)
    (hR : ∀ w', Below w.heap.size w w' → R (.returned (.bool (hasB xs name))) w') :
    Calls Tryz.prog 124 #[v, .string name] w R := by
  obtain ⟨A, c, rfl, hlc, _⟩ := hx.form
  have HR := Lib.hid hR
  clear hR
  go_enter Tryz.func124, Tryz.ntmps124
  go_wp2_with fail
  go_loopw [9] (fun i wr => ∃ k : Nat, k ≤ xs.length ∧ i = .int .i64 k ∧ Below w.heap.size w wr ∧ ∀ j (hj : j < xs.length), j < k → nmE name (xs[j]'hj) = 0) (fun i _ => xs.length - (intOf i).toNat)
  case atStart => exact ⟨0, Nat.zero_le _, rfl, Below.refl _ _, fun _ _ h => absurd h (Nat.not_lt_zero _)⟩
  case round =>
    obtain ⟨k, hk, rfl, hB, hz⟩ := hrel
    have HZ := Lib.hid hz
    clear hz
    by_cases hlt : k < xs.length
    · have hx' := hx.below itmOk hB hok
      obtain ⟨b, off, c2, he, _, _, hbk, hbl, hce⟩ := hx'.addr (by omega)
      simp only [Value.slice.injEq] at he
      obtain ⟨rfl, -, rfl⟩ := he
      obtain ⟨y0, y1⟩ := ritems_k_cells hce k hlt
      obtain ⟨s, hs⟩ : ∃ s, xs[k]'hlt = s := ⟨_, rfl⟩
      rw [hs] at y0 y1
      have HSX := Lib.hid hs
      clear hce hx' hs
      have HB := Lib.hid (hB.alloc hB.size (.cells #[.string s.name, .int .i64 s.n] 110))
      cases e1 : (s.name.toList == name.toList) with
      | true =>
        have h1 : nmE name (xs[k]'hlt) ≠ 0 := by
          rw [HSX.out]
          unfold nmE
          rw [if_pos (ba_toList_inj.1 (eq_of_beq e1))]
          decide
        have hv := HR.out _ HB.out
        rw [(has_at hlt HZ.out h1).1] at hv
        clear h1 hB
        go_wp2_with fail
        exact hv
      | false =>
        have h1 := Lib.hid (show nmE name (xs[k]'hlt) = 0 by
          rw [HSX.out]
          unfold nmE
          rw [if_neg (fun e => by rw [e] at e1; simp at e1)])
        clear hB
        go_wp2_with fail
        go_roundw
        case rel => exact ⟨k + 1, by omega, by go_num, HB.out, fun j hj hjk => by
          by_cases hjk2 : j < k
          · exact HZ.out j hj hjk2
          · obtain rfl : j = k := by omega
            exact h1.out⟩
        case measure => simp [intOf]; omega
    · have hv := HR.out wr hB
      rw [(has_none (fun j hj => HZ.out j hj (by omega))).1] at hv
      obtain rfl : k = xs.length := by omega
      clear hB
      go_wp2_with fail
      exact hv
set_option maxRecDepth 100000 in
set_option maxHeartbeats 4000000 in
theorem rplace_k (R : Ending → World → Prop) (w : World) (ok : Nat → Prop) (v : Value) (xs : List Itm) (name : ByteArray) (hok : ∀ k, ok k → k < w.heap.size) (hx : SlK itmK 2 w ok v xs) (hl : xs.length ≤ 1073741824)
    (hR : ∀ w', Below w.heap.size w w' → R (.returned (.int .i64 (plcI xs name))) w') :
    Calls Tryz.prog 144 #[v, .string name] w R := by
  obtain ⟨A, c, rfl, hlc, _⟩ := hx.form
  have HR := Lib.hid hR
  clear hR
  go_enter Tryz.func144, Tryz.ntmps144
  go_wp2_with fail
  go_loopw [5] (fun i wr => ∃ k : Nat, k ≤ xs.length ∧ i = .int .i64 k ∧ Below w.heap.size w wr ∧ ∀ j (hj : j < xs.length), j < k → nmE name (xs[j]'hj) = 0) (fun i _ => xs.length - (intOf i).toNat)
  case atStart => exact ⟨0, Nat.zero_le _, rfl, Below.refl _ _, fun _ _ h => absurd h (Nat.not_lt_zero _)⟩
  case round =>
    obtain ⟨k, hk, rfl, hB, hz⟩ := hrel
    have HZ := Lib.hid hz
    clear hz
    by_cases hlt : k < xs.length
    · have hx' := hx.below itmOk hB hok
      obtain ⟨b, off, c2, he, _, _, hbk, hbl, hce⟩ := hx'.addr (by omega)
      simp only [Value.slice.injEq] at he
      obtain ⟨rfl, -, rfl⟩ := he
      obtain ⟨y0, y1⟩ := ritems_k_cells hce k hlt
      obtain ⟨s, hs⟩ : ∃ s, xs[k]'hlt = s := ⟨_, rfl⟩
      rw [hs] at y0 y1
      have HSX := Lib.hid hs
      clear hce hx' hs
      have HB := Lib.hid hB
      cases e1 : (s.name.toList == name.toList) with
      | true =>
        have h1 : nmE name (xs[k]'hlt) ≠ 0 := by
          rw [HSX.out]
          unfold nmE
          rw [if_pos (ba_toList_inj.1 (eq_of_beq e1))]
          decide
        have hv := HR.out _ HB.out
        rw [(has_at hlt HZ.out h1).2] at hv
        clear h1 hB
        go_wp2_with fail
        exact hv
      | false =>
        have h1 := Lib.hid (show nmE name (xs[k]'hlt) = 0 by
          rw [HSX.out]
          unfold nmE
          rw [if_neg (fun e => by rw [e] at e1; simp at e1)])
        clear hB
        go_wp2_with fail
        go_roundw
        case rel => exact ⟨k + 1, by omega, by go_num, HB.out, fun j hj hjk => by
          by_cases hjk2 : j < k
          · exact HZ.out j hj hjk2
          · obtain rfl : j = k := by omega
            exact h1.out⟩
        case measure => simp [intOf]; omega
    · have hv := HR.out wr hB
      rw [(has_none (fun j hj => HZ.out j hj (by omega))).2] at hv
      obtain rfl : k = xs.length := by omega
      clear hB
      go_wp2_with fail
      exact hv
end Go.Proofs.YtdceflgemhcgcaaGreatDoor

namespace Go.Proofs.YtdceflgemhcgcaaGreatDoor
open Go.RowKit Go.BigFrame

def sameT (a b : Tnt) : Bool := (a.key.toList == b.key.toList) && (a.eff.toList == b.eff.toList)
def gtB (a b : ByteArray) : Bool := !Op.bytesLess a.toList b.toList && !(a.toList == b.toList)
def aboveT (a b : Tnt) : Bool := gtB a.key b.key || ((a.key.toList == b.key.toList) && gtB a.eff b.eff)
set_option maxRecDepth 100000 in
theorem tsame_k (R : Ending → World → Prop) (w : World) (a b : Tnt) (hR : ∀ w', Below w.heap.size w w' → R (.returned (.bool (sameT a b))) w') :
    Calls Tryz.prog 141 #[.agg #[.string a.key, .string a.val, .string a.eff], .agg #[.string b.key, .string b.val, .string b.eff]] w R := by
  have hv := hR _ (show Below w.heap.size w ((w.alloc (.cells #[.string a.key, .string a.val, .string a.eff] 34)).alloc (.cells #[.string b.key, .string b.val, .string b.eff] 34)) from Below.alloc (Below.alloc (Below.refl _ _) (Nat.le_refl _) _) (by simp) _)
  clear hR
  unfold sameT at hv
  cases e1 : (a.key.toList == b.key.toList) <;> cases e2 : (a.eff.toList == b.eff.toList) <;> (
    rw [e1, e2] at hv
    go_enter Tryz.func141, Tryz.ntmps141
    go_wp2_with fail
    exact hv)
set_option maxRecDepth 100000 in
set_option maxHeartbeats 2000000 in
theorem tabove_k (R : Ending → World → Prop) (w : World) (a b : Tnt) (hR : ∀ w', Below w.heap.size w w' → R (.returned (.bool (aboveT a b))) w') :
    Calls Tryz.prog 217 #[.agg #[.string a.key, .string a.val, .string a.eff], .agg #[.string b.key, .string b.val, .string b.eff]] w R := by
  have hv := hR _ (show Below w.heap.size w ((w.alloc (.cells #[.string a.key, .string a.val, .string a.eff] 34)).alloc (.cells #[.string b.key, .string b.val, .string b.eff] 34)) from Below.alloc (Below.alloc (Below.refl _ _) (Nat.le_refl _) _) (by simp) _)
  clear hR
  unfold aboveT gtB at hv
  cases e0 : Op.bytesLess a.key.toList b.key.toList <;> cases e1 : (a.key.toList == b.key.toList) <;> cases e2 : Op.bytesLess a.eff.toList b.eff.toList <;> cases e3 : (a.eff.toList == b.eff.toList) <;> (
    rw [e0, e1, e2, e3] at hv
    go_enter Tryz.func217, Tryz.ntmps217
    go_wp2_with fail
    exact hv)
end Go.Proofs.YtdceflgemhcgcaaGreatDoor

namespace Go.Proofs.YtdceflgemhcgcaaGreatDoor

theorem bl_irrefl : ∀ x : List UInt8, Op.bytesLess x x = false
  | [] => rfl
  | a :: x => by
    rw [Op.bytesLess, bl_irrefl x]
    simp
theorem bl_trans : ∀ x y z : List UInt8, Op.bytesLess x y = true → Op.bytesLess y z = true → Op.bytesLess x z = true
  | _, [], _, h, _ => by simp [Op.bytesLess] at h
  | _, _ :: _, [], _, h => by simp [Op.bytesLess] at h
  | [], _ :: _, _ :: _, _, _ => rfl
  | a :: x, b :: y, c :: z, h1, h2 => by
    rw [Op.bytesLess] at h1 h2 ⊢
    simp only [Bool.or_eq_true, decide_eq_true_eq, Bool.and_eq_true, beq_iff_eq] at h1 h2 ⊢
    rcases h1 with h1 | ⟨h1, h1'⟩
    · rcases h2 with h2 | ⟨h2, h2'⟩
      · exact .inl (UInt8.lt_trans h1 h2)
      · subst h2; exact .inl h1
    · subst h1
      rcases h2 with h2 | ⟨h2, h2'⟩
      · exact .inl h2
      · exact .inr ⟨h2, bl_trans x y z h1' h2'⟩
theorem bl_tri : ∀ x y : List UInt8, Op.bytesLess x y = true ∨ x = y ∨ Op.bytesLess y x = true
  | [], [] => .inr (.inl rfl)
  | [], _ :: _ => .inl rfl
  | _ :: _, [] => .inr (.inr rfl)
  | a :: x, b :: y => by
    rw [Op.bytesLess, Op.bytesLess]
    simp only [Bool.or_eq_true, decide_eq_true_eq, Bool.and_eq_true, beq_iff_eq]
    by_cases h : a = b
    · subst h
      rcases bl_tri x y with h | h | h
      · exact .inl (.inr ⟨rfl, h⟩)
      · subst h; exact .inr (.inl rfl)
      · exact .inr (.inr (.inr ⟨rfl, h⟩))
    · rcases UInt8.lt_or_lt_of_ne h with h | h
      · exact .inl (.inl h)
      · exact .inr (.inr (.inl h))
theorem ltB_irrefl (a : ByteArray) : ltB a a = false := bl_irrefl _
theorem ltB_trans {a b c : ByteArray} (h1 : ltB a b = true) (h2 : ltB b c = true) : ltB a c = true := bl_trans _ _ _ h1 h2
theorem ltB_tri (a b : ByteArray) : ltB a b = true ∨ a = b ∨ ltB b a = true := by
  rcases bl_tri a.toList b.toList with h | h | h
  · exact .inl h
  · exact .inr (.inl (ba_toList_inj.1 h))
  · exact .inr (.inr h)
theorem ltB_asymm {a b : ByteArray} (h : ltB a b = true) : ltB b a = false := by
  cases h2 : ltB b a with
  | false => rfl
  | true => have := ltB_trans h h2; rw [ltB_irrefl] at this; cases this
theorem gtB_eq (a b : ByteArray) : gtB a b = ltB b a := by
  have e : gtB a b = (!ltB a b && !(a.toList == b.toList)) := rfl
  rw [e]
  rcases ltB_tri a b with h | h | h
  · rw [h, ltB_asymm h]; rfl
  · subst h; rw [ltB_irrefl]; simp
  · rw [h, ltB_asymm h]
    have : (a.toList == b.toList) = false := by
      rw [beq_eq_false_iff_ne]
      intro h'
      rw [ba_toList_inj.1 h', ltB_irrefl] at h
      cases h
    rw [this]; rfl

def ltL (a b : Lab) : Bool := ltB a.key b.key
def ltI (a b : Itm) : Bool := ltB a.name b.name
def ltT (a b : Tnt) : Bool := ltB a.key b.key || ((a.key.toList == b.key.toList) && ltB a.eff b.eff)
theorem aboveT_eq (a b : Tnt) : aboveT a b = ltT b a := by
  unfold aboveT ltT
  rw [gtB_eq, gtB_eq, Bool.beq_comm]
/-- A strict order. -/
structure Ords {α : Type} (lt : α → α → Bool) : Prop where
  irrefl : ∀ a, lt a a = false
  trans : ∀ {a b c}, lt a b = true → lt b c = true → lt a c = true
theorem Ords.asymm {α : Type} {lt : α → α → Bool} (O : Ords lt) {a b : α} (h : lt a b = true) : lt b a = false := by
  cases h2 : lt b a with
  | false => rfl
  | true => have := O.trans h h2; rw [O.irrefl] at this; cases this
theorem ordL : Ords ltL := ⟨fun _ => ltB_irrefl _, fun h1 h2 => ltB_trans h1 h2⟩
theorem ordI : Ords ltI := ⟨fun _ => ltB_irrefl _, fun h1 h2 => ltB_trans h1 h2⟩
theorem ltT_iff (a b : Tnt) : ltT a b = true ↔ ltB a.key b.key = true ∨ (a.key = b.key ∧ ltB a.eff b.eff = true) := by
  unfold ltT
  simp only [Bool.or_eq_true, Bool.and_eq_true, beq_iff_eq, ba_toList_inj]
theorem ordT : Ords ltT where
  irrefl := fun a => by unfold ltT; rw [ltB_irrefl, ltB_irrefl]; simp
  trans := fun {a b c} h1 h2 => by
    rw [ltT_iff] at h1 h2 ⊢
    rcases h1 with h1 | ⟨h1, h1'⟩ <;> rcases h2 with h2 | ⟨h2, h2'⟩
    · exact .inl (ltB_trans h1 h2)
    · rw [← h2]; exact .inl h1
    · rw [h1]; exact .inl h2
    · exact .inr ⟨h1.trans h2, ltB_trans h1' h2'⟩
theorem ltT_tri (a b : Tnt) : ltT a b = true ∨ sameT a b = true ∨ ltT b a = true := by
  rw [ltT_iff, ltT_iff]
  have hs : sameT a b = true ↔ a.key = b.key ∧ a.eff = b.eff := by
    unfold sameT
    simp only [Bool.and_eq_true, beq_iff_eq, ba_toList_inj]
  rw [hs]
  rcases ltB_tri a.key b.key with h | h | h
  · exact .inl (.inl h)
  · rcases ltB_tri a.eff b.eff with h' | h' | h'
    · exact .inl (.inr ⟨h, h'⟩)
    · exact .inr (.inl ⟨h, h'⟩)
    · exact .inr (.inr (.inr ⟨h.symm, h'⟩))
  · exact .inr (.inr (.inl h))

/-! ### sorting -/
def insA {α : Type} (lt : α → α → Bool) (xs : List α) (t : α) : List α := xs.takeWhile (fun y => lt y t) ++ t :: xs.dropWhile (fun y => lt y t)
def srt {α : Type} (lt : α → α → Bool) (xs : List α) : List α := xs.foldl (insA lt) []
def SortOf {α : Type} (lt : α → α → Bool) (xs ys : List α) : Prop := ys.Perm xs ∧ ys.Pairwise (fun a b => lt a b = true)
def Dist {α : Type} (lt : α → α → Bool) (xs : List α) : Prop := xs.Pairwise (fun a b => lt a b = true ∨ lt b a = true)
section
variable {α : Type} {lt : α → α → Bool}
theorem SortOf.unique (O : Ords lt) {xs ys zs : List α} (h1 : SortOf lt xs ys) (h2 : SortOf lt xs zs) : ys = zs := by
  refine List.Perm.eq_of_pairwise (le := fun a b => lt a b = true) ?_ h1.2 h2.2 (h1.1.trans h2.1.symm)
  intro a b _ _ hab hba
  rw [O.asymm hab] at hba
  cases hba
theorem insA_perm (xs : List α) (t : α) : (insA lt xs t).Perm (t :: xs) := by
  unfold insA
  refine List.perm_middle.trans ?_
  rw [List.takeWhile_append_dropWhile]
theorem insA_pairwise (O : Ords lt) {xs : List α} {t : α} (hp : xs.Pairwise (fun a b => lt a b = true)) (hd : ∀ y ∈ xs, lt y t = true ∨ lt t y = true) : (insA lt xs t).Pairwise (fun a b => lt a b = true) := by
  induction xs with
  | nil => simp [insA]
  | cons x r ih =>
    rw [List.pairwise_cons] at hp
    by_cases h : lt x t = true
    · have e : insA lt (x :: r) t = x :: insA lt r t := by simp [insA, List.takeWhile, List.dropWhile, h]
      rw [e, List.pairwise_cons]
      refine ⟨fun y hy => ?_, ih hp.2 (fun y hy => hd y (List.mem_cons_of_mem _ hy))⟩
      rcases List.mem_cons.1 ((insA_perm r t).mem_iff.1 hy) with rfl | hy
      · exact h
      · exact hp.1 y hy
    · have hf : lt x t = false := by simpa using h
      have e : insA lt (x :: r) t = t :: x :: r := by simp [insA, List.takeWhile, List.dropWhile, hf]
      have hx : lt t x = true := (hd x (by simp)).resolve_left h
      rw [e, List.pairwise_cons, List.pairwise_cons]
      refine ⟨fun y hy => ?_, hp.1, hp.2⟩
      rcases List.mem_cons.1 hy with rfl | hy
      · exact hx
      · exact O.trans hx (hp.1 y hy)
theorem srt_go (O : Ords lt) : ∀ (xs acc : List α), acc.Pairwise (fun a b => lt a b = true) → (acc ++ xs).Pairwise (fun a b => lt a b = true ∨ lt b a = true) → SortOf lt (acc ++ xs) (xs.foldl (insA lt) acc)
  | [], acc, h, _ => ⟨by simp, h⟩
  | x :: r, acc, h, hd => by
    have hd' := List.pairwise_append.1 hd
    have hx : ∀ y ∈ acc, lt y x = true ∨ lt x y = true := fun y hy => hd'.2.2 y hy x (by simp)
    have h1 := insA_pairwise O h hx
    have hp := insA_perm (lt := lt) acc x
    have hperm : (insA lt acc x ++ r).Perm (acc ++ x :: r) := by
      refine (hp.append_right r).trans ?_
      simpa using (List.perm_middle (l₁ := acc) (l₂ := r) (a := x)).symm
    have ih := srt_go O r (insA lt acc x) h1 (hperm.symm.pairwise hd (fun h => h.symm))
    exact ⟨ih.1.trans hperm, ih.2⟩
theorem srt_of (O : Ords lt) {xs : List α} (hd : Dist lt xs) : SortOf lt xs (srt lt xs) := by
  have := srt_go O xs [] List.Pairwise.nil (by rw [List.nil_append]; exact hd)
  rw [List.nil_append] at this
  exact this
theorem srt_take {xs : List α} {k : Nat} (hk : k < xs.length) : srt lt (xs.take (k + 1)) = insA lt (srt lt (xs.take k)) (xs[k]'hk) := by
  unfold srt
  rw [List.take_succ_eq_append_getElem hk, List.foldl_append]
  rfl
theorem SortOf.srt (O : Ords lt) {xs ys : List α} (h : SortOf lt xs ys) : srt lt xs = ys :=
  (srt_of O (h.1.pairwise (h.2.imp (fun h => Or.inl h)) (fun h => h.symm))).unique O h
theorem SortOf.filter {xs ys : List α} (h : SortOf lt xs ys) (p : α → Bool) : SortOf lt (xs.filter p) (ys.filter p) := ⟨h.1.filter p, h.2.filter p⟩
theorem srt_length {xs : List α} : (srt lt xs).length = xs.length := by
  have go : ∀ (xs acc : List α), (xs.foldl (insA lt) acc).length = acc.length + xs.length := by
    intro xs
    induction xs with
    | nil => intro acc; simp
    | cons x r ih => intro acc; rw [List.foldl_cons, ih, (insA_perm acc x).length_eq]; simp; omega
  have := go xs []
  simpa [srt] using this
end

/-! ### the first fault -/
def firstF (f : Nat → Int) (n : Nat) : Option Nat := (List.range n).find? (fun i => f i != 0)
theorem firstF_at {f : Nat → Int} {n k : Nat} (hk : k < n) (h : ∀ j, j < k → f j = 0) (he : f k ≠ 0) : firstF f n = some k := by
  unfold firstF
  rw [List.find?_range_eq_some]
  exact ⟨by simpa using he, by simpa using hk, fun j hj => by simpa using h j hj⟩
theorem firstF_none {f : Nat → Int} {n : Nat} (h : ∀ j, j < n → f j = 0) : firstF f n = none := by
  unfold firstF
  rw [List.find?_eq_none]
  intro j hj
  simpa using h j (by simpa using hj)
/-- Does one ahead of it stand for the same? -/
def dupAt {α : Type} (eqv : α → α → Bool) (xs : List α) (i : Nat) : Bool := match xs[i]? with | none => false | some x => (xs.take i).any (fun y => eqv x y)
theorem dupAt_true {α : Type} {eqv : α → α → Bool} {xs : List α} {i j : Nat} (hi : i < xs.length) (hj : j < i) (h : eqv (xs[i]'hi) (xs[j]'(by omega)) = true) : dupAt eqv xs i = true := by
  unfold dupAt
  rw [List.getElem?_eq_getElem hi]
  simp only [List.any_eq_true]
  exact ⟨_, List.mem_take_iff_getElem.2 ⟨j, by omega, rfl⟩, h⟩
theorem dupAt_false {α : Type} {eqv : α → α → Bool} {xs : List α} {i : Nat} (hi : i < xs.length) (h : ∀ j (hj : j < i), eqv (xs[i]'hi) (xs[j]'(by omega)) = false) : dupAt eqv xs i = false := by
  unfold dupAt
  rw [List.getElem?_eq_getElem hi]
  simp only [List.any_eq_false]
  intro y hy
  obtain ⟨j, hj, rfl⟩ := List.mem_take_iff_getElem.1 hy
  rw [h j (by omega)]
  simp
theorem dupAt_pairwise {α : Type} {eqv : α → α → Bool} {xs : List α} (h : ∀ i, i < xs.length → dupAt eqv xs i = false) : xs.Pairwise (fun a b => eqv b a = false) := by
  rw [List.pairwise_iff_getElem]
  intro i j hi hj hij
  cases e : eqv xs[j] xs[i] with
  | false => rfl
  | true => rw [← h j hj, dupAt_true hj hij e]

/-! ### the three Makes -/
def keyE (x y : Lab) : Bool := y.key.toList == x.key.toList
def labErr (xs : List Lab) (i : Nat) : Int := match xs[i]? with
  | none => 0
  | some x => if keyB x.key = false then 31 else if valueB x.val = false then 32 else if dupAt keyE xs i = true then 33 else 0
def labMake (xs : List Lab) : List Lab × ByteArray × Int := if 32 < xs.length then ([], ⟨#[]⟩, 34) else match firstF (labErr xs) xs.length with
  | some i => ([], (match xs[i]? with | some x => x.key | none => ⟨#[]⟩), labErr xs i)
  | none => (srt ltL xs, ⟨#[]⟩, 0)
def nzI (x : Itm) : Bool := decide (x.n ≠ 0)
def itmE (x y : Itm) : Bool := y.name.toList == x.name.toList
def itmErr (xs : List Itm) (i : Nat) : Int := match xs[i]? with
  | none => 0
  | some x => if itemB x.name = false then 24 else if x.n < 0 then 26 else if dupAt itmE xs i = true then 25 else 0
def itmMake (xs : List Itm) : List Itm × ByteArray × Int := if 16 < xs.length then ([], ⟨#[]⟩, 27) else match firstF (itmErr xs) xs.length with
  | some i => ([], (match xs[i]? with | some x => x.name | none => ⟨#[]⟩), itmErr xs i)
  | none => ((srt ltI xs).filter nzI, ⟨#[]⟩, 0)
def tntF (xs : List Tnt) (i : Nat) : Int := match xs[i]? with | none => 0 | some t => taintErr t
def tntD (xs : List Tnt) (i : Nat) : Int := if dupAt sameT xs i = true then 45 else 0
def tntMake (xs : List Tnt) : List Tnt × Int × Int := if 16 < xs.length then ([], 0, 44) else match firstF (tntF xs) xs.length with
  | some i => ([], (i : Int), tntF xs i)
  | none => match firstF (tntD xs) xs.length with
    | some i => ([], (i : Int), 45)
    | none => (srt ltT xs, 0, 0)
theorem tntF_at {xs : List Tnt} {i : Nat} (hi : i < xs.length) : tntF xs i = taintErr (xs[i]'hi) := by unfold tntF; rw [List.getElem?_eq_getElem hi]
theorem labErr_at {xs : List Lab} {i : Nat} (hi : i < xs.length) : labErr xs i = if keyB (xs[i]'hi).key = false then 31 else if valueB (xs[i]'hi).val = false then 32 else if dupAt keyE xs i = true then 33 else 0 := by unfold labErr; rw [List.getElem?_eq_getElem hi]
theorem itmErr_at {xs : List Itm} {i : Nat} (hi : i < xs.length) : itmErr xs i = if itemB (xs[i]'hi).name = false then 24 else if (xs[i]'hi).n < 0 then 26 else if dupAt itmE xs i = true then 25 else 0 := by unfold itmErr; rw [List.getElem?_eq_getElem hi]
theorem labMake_bad {xs : List Lab} {i : Nat} (hl : ¬ 32 < xs.length) (hi : i < xs.length) (h : ∀ j, j < i → labErr xs j = 0) (he : labErr xs i ≠ 0) : labMake xs = ([], (xs[i]'hi).key, labErr xs i) := by
  unfold labMake; rw [if_neg hl, firstF_at hi h he]; simp only [List.getElem?_eq_getElem hi]
theorem labMake_ok {xs : List Lab} (hl : ¬ 32 < xs.length) (h : ∀ j, j < xs.length → labErr xs j = 0) : labMake xs = (srt ltL xs, ⟨#[]⟩, 0) := by
  unfold labMake; rw [if_neg hl, firstF_none h]
theorem itmMake_bad {xs : List Itm} {i : Nat} (hl : ¬ 16 < xs.length) (hi : i < xs.length) (h : ∀ j, j < i → itmErr xs j = 0) (he : itmErr xs i ≠ 0) : itmMake xs = ([], (xs[i]'hi).name, itmErr xs i) := by
  unfold itmMake; rw [if_neg hl, firstF_at hi h he]; simp only [List.getElem?_eq_getElem hi]
theorem itmMake_ok {xs : List Itm} (hl : ¬ 16 < xs.length) (h : ∀ j, j < xs.length → itmErr xs j = 0) : itmMake xs = ((srt ltI xs).filter nzI, ⟨#[]⟩, 0) := by
  unfold itmMake; rw [if_neg hl, firstF_none h]
theorem tntMake_bad {xs : List Tnt} {i : Nat} (hl : ¬ 16 < xs.length) (hi : i < xs.length) (h : ∀ j, j < i → tntF xs j = 0) (he : tntF xs i ≠ 0) : tntMake xs = ([], (i : Int), tntF xs i) := by
  unfold tntMake; rw [if_neg hl, firstF_at hi h he]
theorem tntMake_dup {xs : List Tnt} {i : Nat} (hl : ¬ 16 < xs.length) (h0 : ∀ j, j < xs.length → tntF xs j = 0) (hi : i < xs.length) (h : ∀ j, j < i → dupAt sameT xs j = false) (he : dupAt sameT xs i = true) : tntMake xs = ([], (i : Int), 45) := by
  unfold tntMake; rw [if_neg hl, firstF_none h0]; simp only []; rw [firstF_at hi (fun j hj => by unfold tntD; rw [h j hj]; rfl) (by unfold tntD; rw [he]; decide)]
theorem tntMake_ok {xs : List Tnt} (hl : ¬ 16 < xs.length) (h0 : ∀ j, j < xs.length → tntF xs j = 0) (h : ∀ j, j < xs.length → dupAt sameT xs j = false) : tntMake xs = (srt ltT xs, 0, 0) := by
  unfold tntMake; rw [if_neg hl, firstF_none h0]; simp only []; rw [firstF_none (fun j hj => by unfold tntD; rw [h j hj]; rfl)]
theorem keyE_dist {xs : List Lab} (h : ∀ i, i < xs.length → dupAt keyE xs i = false) : Dist ltL xs :=
  (dupAt_pairwise h).imp (fun {a b} h => by
    rcases ltB_tri a.key b.key with h1 | h1 | h1
    · exact .inl h1
    · unfold keyE at h; rw [h1] at h; simp at h
    · exact .inr h1)
theorem itmE_dist {xs : List Itm} (h : ∀ i, i < xs.length → dupAt itmE xs i = false) : Dist ltI xs :=
  (dupAt_pairwise h).imp (fun {a b} h => by
    rcases ltB_tri a.name b.name with h1 | h1 | h1
    · exact .inl h1
    · unfold itmE at h; rw [h1] at h; simp at h
    · exact .inr h1)
theorem sameT_dist {xs : List Tnt} (h : ∀ i, i < xs.length → dupAt sameT xs i = false) : Dist ltT xs :=
  (dupAt_pairwise h).imp (fun {a b} h => by
    rcases ltT_tri b a with h1 | h1 | h1
    · exact .inr h1
    · rw [h1] at h; cases h
    · exact .inl h1)
end Go.Proofs.YtdceflgemhcgcaaGreatDoor

namespace Go.Proofs.YtdceflgemhcgcaaGreatDoor

section
variable {α : Type} {lt : α → α → Bool} {el : α → Bool} {xs : List α}
/-- The place of the least eligible element ahead of i, or -1. -/
def BestAt (lt : α → α → Bool) (el : α → Bool) (xs : List α) (i : Nat) (best : Int) : Prop :=
  (best = -1 ∧ ∀ j (hj : j < xs.length), j < i → el (xs[j]'hj) = false) ∨
  ∃ b, ∃ hb : b < xs.length, best = (b : Int) ∧ b < i ∧ el (xs[b]'hb) = true ∧ ∀ j (hj : j < xs.length), j < i → el (xs[j]'hj) = true → lt (xs[j]'hj) (xs[b]'hb) = false
theorem BestAt.zero : BestAt lt el xs 0 (-1) := .inl ⟨rfl, fun _ _ h => absurd h (Nat.not_lt_zero _)⟩
theorem BestAt.skip {i : Nat} {best : Int} (h : BestAt lt el xs i best) (hi : i < xs.length) (he : el (xs[i]'hi) = false) : BestAt lt el xs (i + 1) best := by
  rcases h with ⟨h1, h2⟩ | ⟨b, hb, h1, h2, h3, h4⟩
  · refine .inl ⟨h1, fun j hj hji => ?_⟩
    by_cases h : j < i
    · exact h2 j hj h
    · obtain rfl : j = i := by omega
      exact he
  · refine .inr ⟨b, hb, h1, by omega, h3, fun j hj hji hje => ?_⟩
    by_cases h : j < i
    · exact h4 j hj h hje
    · obtain rfl : j = i := by omega
      rw [he] at hje; cases hje
theorem BestAt.first (O : Ords lt) {i : Nat} {best : Int} (h : BestAt lt el xs i best) (hn : best < 0) (hi : i < xs.length) (he : el (xs[i]'hi) = true) : BestAt lt el xs (i + 1) (i : Int) := by
  rcases h with ⟨h1, h2⟩ | ⟨b, hb, h1, h2, h3, h4⟩
  · refine .inr ⟨i, hi, rfl, by omega, he, fun j hj hji hje => ?_⟩
    by_cases h : j < i
    · rw [h2 j hj h] at hje; cases hje
    · obtain rfl : j = i := by omega
      exact O.irrefl _
  · omega
theorem BestAt.less (O : Ords lt) {i b : Nat} (hb : b < xs.length) (h : BestAt lt el xs i (b : Int)) (hi : i < xs.length) (he : el (xs[i]'hi) = true) (hl : lt (xs[i]'hi) (xs[b]'hb) = true) : BestAt lt el xs (i + 1) (i : Int) := by
  rcases h with ⟨h1, h2⟩ | ⟨b', hb', h1, h2, h3, h4⟩
  · omega
  · obtain rfl : b = b' := by omega
    refine .inr ⟨i, hi, rfl, by omega, he, fun j hj hji hje => ?_⟩
    by_cases h : j < i
    · cases e : lt xs[j] xs[i] with
      | false => rfl
      | true => have := O.trans e hl; rw [h4 j hj h hje] at this; cases this
    · obtain rfl : j = i := by omega
      exact O.irrefl _
theorem BestAt.keep {i b : Nat} (hb : b < xs.length) (h : BestAt lt el xs i (b : Int)) (hi : i < xs.length) (hl : lt (xs[i]'hi) (xs[b]'hb) = false) : BestAt lt el xs (i + 1) (b : Int) := by
  rcases h with ⟨h1, h2⟩ | ⟨b', hb', h1, h2, h3, h4⟩
  · omega
  · obtain rfl : b = b' := by omega
    refine .inr ⟨b, hb, rfl, by omega, h3, fun j hj hji hje => ?_⟩
    by_cases h : j < i
    · exact h4 j hj h hje
    · obtain rfl : j = i := by omega
      exact hl
theorem BestAt.cases {i : Nat} {best : Int} (h : BestAt lt el xs i best) : best = -1 ∨ ∃ b, ∃ _ : b < xs.length, best = (b : Int) := by
  rcases h with ⟨h1, _⟩ | ⟨b, hb, h1, _⟩
  · exact .inl h1
  · exact .inr ⟨b, hb, h1⟩
/-- Eligible: above the m-th. -/
def Elig (lt : α → α → Bool) (el : α → Bool) (xs : List α) (m : Nat) : Prop := ∀ x ∈ xs, el x = true ↔ (m = 0 ∨ ∃ p, (srt lt xs)[m - 1]? = some p ∧ lt p x = true)
theorem BestAt.done (O : Ords lt) (hd : Dist lt xs) {m : Nat} (hm : m < xs.length) (hE : Elig lt el xs m) {best : Int} (h : BestAt lt el xs xs.length best) :
    ∃ b, ∃ hb : b < xs.length, best = (b : Int) ∧ (srt lt xs)[m]? = some (xs[b]'hb) := by
  have hS := srt_of O hd
  have hlen : (srt lt xs).length = xs.length := srt_length
  have hpw := List.pairwise_iff_getElem.1 hS.2
  have hmS : m < (srt lt xs).length := by omega
  have hem : el ((srt lt xs)[m]'hmS) = true := by
    rw [hE _ (hS.1.mem_iff.1 (List.getElem_mem hmS))]
    by_cases h0 : m = 0
    · exact .inl h0
    · refine .inr ⟨(srt lt xs)[m - 1]'(by omega), List.getElem?_eq_getElem _, hpw _ _ _ _ (by omega)⟩
  obtain ⟨j0, hj0, e0⟩ := List.mem_iff_getElem.1 (hS.1.mem_iff.1 (List.getElem_mem hmS))
  rcases h with ⟨_, h2⟩ | ⟨b, hb, h1, _, h3, h4⟩
  · have := h2 j0 hj0 hj0
    rw [e0, hem] at this
    cases this
  · refine ⟨b, hb, h1, ?_⟩
    obtain ⟨q, hq, eq⟩ := List.mem_iff_getElem.1 (hS.1.mem_iff.2 (List.getElem_mem hb))
    have hmq : ¬ m < q := fun h => by
      have h5 := hpw m q hmS hq h
      have h6 := h4 j0 hj0 hj0 (by rw [e0]; exact hem)
      rw [e0, ← eq, h5] at h6
      cases h6
    have hqm : ¬ q < m := fun h => by
      rw [hE _ (List.getElem_mem hb)] at h3
      rcases h3 with h3 | ⟨p, hp, hlp⟩
      · omega
      · rw [List.getElem?_eq_getElem (by omega)] at hp
        cases hp
        rw [← eq] at hlp
        by_cases h7 : q = m - 1
        · subst h7; rw [O.irrefl] at hlp; cases hlp
        · have := hpw q (m - 1) hq (by omega) (by omega)
          rw [O.asymm this] at hlp
          cases hlp
    obtain rfl : q = m := by omega
    rw [List.getElem?_eq_getElem hq, eq]
/-- .. as a function. -/
def elS (lt : α → α → Bool) (xs : List α) (m : Nat) (x : α) : Bool := decide (m = 0) || (match (srt lt xs)[m - 1]? with | some p => lt p x | none => false)
theorem elS_elig (m : Nat) : Elig lt (elS lt xs m) xs m := by
  intro x _
  unfold elS
  cases h : (srt lt xs)[m - 1]? with
  | none => simp
  | some p => simp
theorem elS_at {m : Nat} {p : α} (h0 : m ≠ 0) (h : (srt lt xs)[m - 1]? = some p) (x : α) : elS lt xs m x = lt p x := by
  unfold elS
  rw [h]
  simp [h0]
end
end Go.Proofs.YtdceflgemhcgcaaGreatDoor

namespace Go.Proofs.YtdceflgemhcgcaaGreatDoor
open Go.RowKit Go.BigFrame

theorem SlK.nil_of {α : Type} {K : KRel α} {sz : Nat} {w : World} {ok : Nat → Prop} {A : Option Addr} {n c : Nat} {xs : List α} (h : SlK K sz w ok (.slice A n c) xs) (hA : A = none) : xs = [] := by
  obtain ⟨A', c', he, _, _, h4⟩ := h
  simp only [Value.slice.injEq] at he
  obtain ⟨rfl, -, -⟩ := he
  rcases h4 with h4 | ⟨b, off, h5, _⟩
  · exact h4
  · rw [hA] at h5; cases h5

theorem infoLab : (Tryz.prog.info? 118).map (fun i => (i.zero, i.size, i.bytes)) = some (some (.agg #[.string ⟨#[]⟩, .string ⟨#[]⟩]), 2, 32) := by kernel_rfl
end Go.Proofs.YtdceflgemhcgcaaGreatDoor

namespace Go.Proofs.YtdceflgemhcgcaaGreatDoor
open Go.RowKit Go.BigFrame

def GoodI (xs : List Itm) : Prop := xs.length ≤ 16 ∧ xs.Pairwise (fun a b => ltI a b = true) ∧ ∀ s ∈ xs, itemB s.name = true ∧ 0 < s.n ∧ s.n ≤ 9223372036854775807
theorem GoodI.nil : GoodI [] := ⟨by simp, List.Pairwise.nil, fun _ h => by simp at h⟩
theorem itemB_size {s : ByteArray} (h : itemB s = true) : s.size ≤ 32 := by
  unfold itemB at h
  simp only [Bool.and_eq_true, decide_eq_true_eq] at h
  exact h.1.2
def qget (xs : List Itm) (name : ByteArray) : Int := match xs.find? (fun x => decide (x.name = name)) with | some x => x.n | none => 0
theorem qget_none {xs : List Itm} {name : ByteArray} (h : ∀ j (hj : j < xs.length), nmE name (xs[j]'hj) = 0) : qget xs name = 0 := by
  unfold qget
  rw [List.find?_eq_none.2 (fun x hx => ?_)]
  obtain ⟨j, hj, rfl⟩ := List.mem_iff_getElem.1 hx
  have := h j hj
  unfold nmE at this
  by_cases e : (xs[j]'hj).name = name
  · rw [if_pos e] at this; cases this
  · simpa using e
theorem qget_at {xs : List Itm} {name : ByteArray} {k : Nat} (hk : k < xs.length) (h : ∀ j (hj : j < xs.length), j < k → nmE name (xs[j]'hj) = 0) (he : (xs[k]'hk).name = name) : qget xs name = (xs[k]'hk).n := by
  have : xs.find? (fun x => decide (x.name = name)) = some (xs[k]'hk) := by
    rw [List.find?_eq_some_iff_getElem]
    refine ⟨by simpa using he, k, hk, rfl, fun j hj => ?_⟩
    have := h j (by omega) hj
    unfold nmE at this
    by_cases e : (xs[j]'(by omega)).name = name
    · rw [if_pos e] at this; cases this
    · simpa using e
  unfold qget
  rw [this]
theorem int_cells {w : World} {ok : Nat → Prop} {b off : Nat} {l : List Int} (h : ∀ j (hj : j < l.length), ∃ cs, intsK w ok (l[j]'hj) cs ∧ cs.length = 1 ∧ ∀ i u, cs[i]? = some u → w.cell? ⟨b, off + (j * 1 + i), none⟩ = some u) (k : Nat) (hk : k < l.length) :
    w.cell? ⟨b, off + k, none⟩ = some (.int .i64 (l[k]'hk)) := by
  obtain ⟨cs, h1, _, hc⟩ := h k hk
  cases h1
  have := hc 0 _ rfl
  simpa using this
set_option maxRecDepth 100000 in
set_option maxHeartbeats 4000000 in
theorem or_k (R : Ending → World → Prop) (w : World) (ok : Nat → Prop) (v : Value) (xs : List Int) (hok : ∀ k, ok k → k < w.heap.size) (hx : SlK intsK 1 w ok v xs) (hl : xs.length ≤ 1073741824) (h0 : ∀ x ∈ xs, x = 0)
    (hR : ∀ w', Below w.heap.size w w' → R (.returned (.int .i64 0)) w') :
    Calls Tryz.prog 193 #[v] w R := by
  obtain ⟨A, c, rfl, hlc, _⟩ := hx.form
  have HR := Lib.hid hR
  have H0 := Lib.hid h0
  clear hR h0
  go_enter Tryz.func193, Tryz.ntmps193
  go_wp2_with fail
  go_loopw [8] (fun i wr => ∃ k : Nat, k ≤ xs.length ∧ i = .int .i64 k ∧ Below w.heap.size w wr) (fun i _ => xs.length - (intOf i).toNat)
  case atStart => exact ⟨0, Nat.zero_le _, rfl, Below.refl _ _⟩
  case round =>
    obtain ⟨k, hk, rfl, hB⟩ := hrel
    by_cases hlt : k < xs.length
    · obtain ⟨b, off, c2, he, _, _, hbk, hbl, hce⟩ := (hx.below intOk hB hok).addr (by omega)
      simp only [Value.slice.injEq] at he
      obtain ⟨he, -, hec⟩ := he
      cases he
      cases hec
      have y0 := int_cells hce k hlt
      rw [H0.out _ (List.getElem_mem hlt)] at y0
      clear hce
      go_wp2_with fail
      go_roundw
      case rel => exact ⟨k + 1, by omega, by go_num, hB⟩
      case measure => simp [intOf]; omega
    · have hv := HR.out _ hB
      go_wp2_with fail
      exact hv
set_option maxRecDepth 100000 in
set_option maxHeartbeats 4000000 in
theorem qget_k (R : Ending → World → Prop) (w : World) (ok : Nat → Prop) (v : Value) (xs : List Itm) (name : ByteArray) (hok : ∀ k, ok k → k < w.heap.size) (hx : SlK itmK 2 w ok v xs) (hl : xs.length ≤ 1073741824)
    (hR : ∀ w', Below w.heap.size w w' → R (.returned (.int .i64 (qget xs name))) w') :
    Calls Tryz.prog 169 #[v, .string name] w R := by
  obtain ⟨A, c, rfl, hlc, _⟩ := hx.form
  have HR := Lib.hid hR
  clear hR
  go_enter Tryz.func169, Tryz.ntmps169
  go_wp2_with fail
  go_loopw [9] (fun i wr => ∃ k : Nat, k ≤ xs.length ∧ i = .int .i64 k ∧ Below w.heap.size w wr ∧ ∀ j (hj : j < xs.length), j < k → nmE name (xs[j]'hj) = 0) (fun i _ => xs.length - (intOf i).toNat)
  case atStart => exact ⟨0, Nat.zero_le _, rfl, Below.refl _ _, fun _ _ h => absurd h (Nat.not_lt_zero _)⟩
  case round =>
    obtain ⟨k, hk, rfl, hB, hz⟩ := hrel
    have HZ := Lib.hid hz
    clear hz
    by_cases hlt : k < xs.length
    · obtain ⟨b, off, c2, he, _, _, hbk, hbl, hce⟩ := (hx.below itmOk hB hok).addr (by omega)
      simp only [Value.slice.injEq] at he
      obtain ⟨rfl, -, rfl⟩ := he
      obtain ⟨y0, y1⟩ := ritems_k_cells hce k hlt
      obtain ⟨s, hs⟩ : ∃ s, xs[k]'hlt = s := ⟨_, rfl⟩
      rw [hs] at y0 y1
      have HSX := Lib.hid hs
      clear hce hs
      have HB := Lib.hid (hB.alloc hB.size (.cells #[.string s.name, .int .i64 s.n] 110))
      cases e1 : (s.name.toList == name.toList) with
      | true =>
        have hv := HR.out _ HB.out
        rw [qget_at hlt HZ.out (by rw [HSX.out]; exact ba_toList_inj.1 (eq_of_beq e1)), HSX.out] at hv
        clear hB
        go_wp2_with fail
        exact hv
      | false =>
        have h1 : nmE name (xs[k]'hlt) = 0 := by
          rw [HSX.out]
          unfold nmE
          rw [if_neg (fun e => by rw [e] at e1; simp at e1)]
        have H1 := Lib.hid h1
        clear h1 hB
        go_wp2_with fail
        go_roundw
        case rel => exact ⟨k + 1, by omega, by go_num, HB.out, fun j hj hjk => by
          by_cases hjk2 : j < k
          · exact HZ.out j hj hjk2
          · obtain rfl : j = k := by omega
            exact H1.out⟩
        case measure => simp [intOf]; omega
    · have hv := HR.out _ hB
      rw [qget_none (fun j hj => HZ.out j hj (by omega))] at hv
      go_wp2_with fail
      exact hv
set_option maxRecDepth 100000 in
set_option maxHeartbeats 4000000 in
theorem qcheck_k (R : Ending → World → Prop) (w : World) (ok : Nat → Prop) (v : Value) (xs : List Itm) (hok : ∀ k, ok k → k < w.heap.size) (hx : SlK itmK 2 w ok v xs) (hg : GoodI xs)
    (hR : ∀ w', Below w.heap.size w w' → R (.returned (.int .i64 0)) w') :
    Calls Tryz.prog 194 #[v] w R := by
  obtain ⟨A, c, rfl, hlc, _⟩ := hx.form
  have HR := Lib.hid hR
  have HG := Lib.hid hg
  have h16 : ¬ (16 : Int) < (xs.length : Int) := by have := hg.1; omega
  have hln : xs.length ≤ 16 := hg.1
  clear hR hg
  go_enter Tryz.func194, Tryz.ntmps194
  go_wp2_with fail
  go_loopw [10] (fun i wr => ∃ k : Nat, k ≤ xs.length ∧ i = .int .i64 k ∧ Below w.heap.size w wr) (fun i _ => xs.length - (intOf i).toNat)
  case atStart => exact ⟨0, Nat.zero_le _, rfl, Below.refl _ _⟩
  case round =>
    obtain ⟨k, hk, rfl, hB⟩ := hrel
    by_cases hlt : k < xs.length
    · obtain ⟨b, off, c2, he, _, _, hbk, hbl, hce⟩ := (hx.below itmOk hB hok).addr (by omega)
      simp only [Value.slice.injEq] at he
      obtain ⟨rfl, -, rfl⟩ := he
      obtain ⟨y0, y1⟩ := ritems_k_cells hce k hlt
      obtain ⟨p0, _⟩ := ritems_k_cells hce (k - 1) (by omega)
      obtain ⟨hi1, hi2, hi3⟩ := HG.out.2.2 _ (List.getElem_mem hlt)
      obtain ⟨s, hs⟩ : ∃ s, xs[k]'hlt = s := ⟨_, rfl⟩
      obtain ⟨p, hp⟩ : ∃ p, xs[k - 1]'(by omega) = p := ⟨_, rfl⟩
      have HLT := Lib.hid (show 0 < k → ltI p s = true from fun h0 => by
        rw [← hp, ← hs]
        exact List.pairwise_iff_getElem.1 HG.out.2.1 (k - 1) k (by omega) hlt (by omega))
      rw [hs] at y0 y1 hi1 hi2 hi3
      rw [hp] at p0
      have HI := Lib.hid hi1
      have hn1 : ¬ s.n ≤ 0 := by omega
      clear hce hs hp hi1 hi3
      obtain ⟨w1, hw1⟩ : ∃ w1, w1 = wr.alloc (.cells #[.string s.name, .int .i64 s.n] 110) := ⟨_, rfl⟩
      have HB2 := Lib.hid (show Below w.heap.size w w1 by rw [hw1]; exact hB.alloc hB.size _)
      have n0 : w1.cell? ⟨wr.heap.size, 0, none⟩ = some (.string s.name) := by rw [hw1]; exact cell_new rfl
      have n1 : w1.cell? ⟨wr.heap.size, 1, none⟩ = some (.int .i64 s.n) := by rw [hw1]; exact cell_new rfl
      have qp : w1.cell? ⟨b, off + (k - 1) * 2, none⟩ = some (.string p.name) := by rw [hw1]; exact cell_old p0 _
      go_upto_region 6 with fail
      rw [← hw1]
      clear hw1
      go_wp2_with fail
      refine qname_k _ _ _ (by have := itemB_size HI.out; omega) ?_
      rw [HI.out]
      clear y0 y1 p0 hB
      by_cases h0 : 0 < k
      · have b1 : Op.bytesLess p.name.toList s.name.toList = true := HLT.out h0
        have b2 : Op.bytesLess s.name.toList p.name.toList = false := ltB_asymm b1
        have b3 : (s.name.toList == p.name.toList) = false := by
          cases e : (s.name.toList == p.name.toList) with
          | false => rfl
          | true => rw [eq_of_beq e, bl_irrefl] at b1; cases b1
        go_wp2_with fail
        go_region
        go_wp2_with fail
        go_roundw
        case rel => exact ⟨k + 1, by omega, by go_num, by first | exact HB2.out.drew | exact HB2.out⟩
        case measure => simp [intOf]; omega
      · go_wp2_with fail
        go_quiet (fail)
        go_wp2_with fail
        go_roundw
        case rel => exact ⟨k + 1, by omega, by go_num, by first | exact below_drewN HB2.out _ | exact HB2.out⟩
        case measure => simp [intOf]; omega
    · have hv := HR.out _ hB
      go_wp2_with fail
      exact hv
end Go.Proofs.YtdceflgemhcgcaaGreatDoor

namespace Go.Proofs.YtdceflgemhcgcaaGreatDoor
open Go.RowKit Go.BigFrame

end Go.Proofs.YtdceflgemhcgcaaGreatDoor
