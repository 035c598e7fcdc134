/-
The sorts of the program: slices.SortFunc at taints and items, sort.Slice at labels: the row holds its elements in their order.
labels.sorted: a copy in the order of the keys.
labels.Make.
-/
import Derived.Test.YtdceflgemhcgcaaGreatDoorP26
import Derived.Test.YtdceflgemhcgcaaGreatDoorP13
import Derived.Test.YtdceflgemhcgcaaGreatDoorP17
import Derived.Deep.QuietTactic
import Derived.Test.YtdceflgemhcgcaaGreatDoorP09
import Derived.Test.YtdceflgemhcgcaaGreatDoorP04
set_option linter.unusedVariables false
set_option linter.unusedSimpArgs false
namespace Go.Proofs.YtdceflgemhcgcaaGreatDoor
open Go.Shelf Go.RowKit Go.Sort Go.BigFrame

instance : Inhabited Lab := ⟨⟨⟨#[]⟩, ⟨#[]⟩⟩⟩
instance : Inhabited Itm := ⟨⟨⟨#[]⟩, 0⟩⟩
instance : Inhabited Tnt := ⟨⟨⟨#[]⟩, ⟨#[]⟩, ⟨#[]⟩⟩⟩

/-! ### the rows of the kit and ours -/
section
variable {α : Type} [Inhabited α] {enc : α → List Value} {k : Nat}
theorem holds_of {W : World} {b : Nat} {xs : List α} (hk : ∀ x, (enc x).length = k) (hc : ∀ j x, xs[j]? = some x → ∃ cs, Flat enc W (fun _ => True) x cs ∧ cs.length = k ∧ ∀ i u, cs[i]? = some u → W.cell? ⟨b, 0 + (j * k + i), none⟩ = some u)
    (hf : ∀ o, W.frozen? ⟨b, o, none⟩ = false) : HoldsK enc k W b 0 xs.toArray := by
  intro t ht
  rw [size_flatK] at ht
  refine ⟨?_, hf _⟩
  rw [get_flatK _ _ _ _ ht]
  have k0 : 0 < k := by rcases Nat.eq_zero_or_pos k with h | h; · subst h; simp at ht
                        · exact h
  have hj : t / k < xs.length := by
    rw [Nat.div_lt_iff_lt_mul k0]; simpa using ht
  obtain ⟨cs, h1, h2, h3⟩ := hc (t / k) _ (List.getElem?_eq_getElem hj)
  cases h1
  have hi : t % k < (enc (xs[t / k]'hj)).length := by rw [hk]; exact Nat.mod_lt _ k0
  have h4 := h3 (t % k) _ (List.getElem?_eq_getElem hi)
  rw [Nat.div_add_mod' t k] at h4
  rw [h4]
  have e1 : (xs.toArray)[t / k]! = xs[t / k]'hj := by
    rw [getElem!_pos xs.toArray _ (by simpa using hj)]; simp
  rw [e1, getElem!_pos (enc (xs[t / k]'hj)) _ hi]
  rfl
theorem slk_of {W : World} {ok : Nat → Prop} {b c : Nat} {d : Array α} (hk : ∀ x, (enc x).length = k) (hH : HoldsK enc k W b 0 d) (hb : b < W.heap.size) (hok : ok b) (hc : d.size ≤ c) (hm : c ≤ maxLen) :
    SlK (Flat enc) k W ok (.slice (some ⟨b, 0, none⟩) d.size c) d.toList := by
  refine ⟨_, c, by simp, by simpa using hc, hm, .inr ⟨b, 0, rfl, hok, hb, fun j x hx => ⟨enc x, rfl, hk x, fun i u hu => ?_⟩⟩⟩
  have hj : j < d.size := by have := (List.getElem?_eq_some_iff.1 hx).1; simpa using this
  have hi : i < k := by have := (List.getElem?_eq_some_iff.1 hu).1; rwa [hk] at this
  have h1 := (hH.cell hj hi).1
  rw [Nat.add_assoc] at h1
  rw [h1]
  have e1 : d[j]! = x := by
    rw [getElem!_pos d _ hj]
    have := (List.getElem?_eq_some_iff.1 hx).2
    simpa using this
  have e2 := (List.getElem?_eq_some_iff.1 hu)
  rw [e1, getElem!_pos (enc x) _ e2.1, e2.2]
theorem mod_sorted (w : World) (b n : Nat) (d : Array α) (os : Array Obj) : Mod (fun j => j = b) w (grow (putRowK enc k (Sort.ahead w n) b 0 d) os) where
  os := rfl
  tape := rfl
  output := rfl
  size := by rw [size_grow, size_putRowK]; exact Nat.le_add_right _ _
  block := fun j hj hjb => by
    show ((w.heap.modify b _) ++ os)[j]? = w.heap[j]?
    rw [Array.getElem?_append_left (by simpa using hj), Array.getElem?_modify, if_neg (fun h => hjb h.symm)]
theorem sortOf_list {lt : α → α → Bool} {xs : List α} {d' : Array α} (hd : Dist lt xs) (hp : PermIn 0 xs.toArray.size xs.toArray d') (hs : SortedIn lt 0 xs.toArray.size d') : SortOf lt xs d'.toList := by
  have hsz : d'.size = xs.length := by simpa using hp.1
  have hperm : d'.toList.Perm xs := by
    have h := hp.2.2
    rw [show xs.toArray.size = d'.size from hp.1.symm, Array.extract_size, hp.1, Array.extract_size] at h
    simpa using h
  refine ⟨hperm, ?_⟩
  have hD : d'.toList.Pairwise (fun a b => lt a b = true ∨ lt b a = true) := hperm.symm.pairwise hd (fun h => h.symm)
  rw [List.pairwise_iff_getElem] at hD ⊢
  intro i j hi hj hij
  have h1 := hs i j (Nat.zero_le _) hij (by simpa [← hsz] using hj)
  have hi' : i < d'.size := by simpa using hi
  have hj' : j < d'.size := by simpa using hj
  rw [getElem!_pos d' _ hj', getElem!_pos d' _ hi'] at h1
  have h2 := hD i j hi hj hij
  simp only [Array.getElem_toList] at h2 ⊢
  rcases h2 with h2 | h2
  · exact h2
  · rw [h2] at h1; cases h1
end
theorem OwnK.holds {α : Type} [Inhabited α] {enc : α → List Value} {k : Nat} {e : TypeId} {w : World} {B : Nat} {v : Value} {xs : List α} (hk : ∀ x, (enc x).length = k) (HO : OwnK (Flat enc) k e w B (fun _ => False) v xs) :
    (v = .slice none 0 0 ∧ xs = []) ∨ ∃ b c, v = .slice (some ⟨b, 0, none⟩) xs.length c ∧ xs.length ≤ c ∧ c ≤ maxLen ∧ B ≤ b ∧ b < w.heap.size ∧ HoldsK enc k w b 0 xs.toArray := by
  have hsl := HO.slk (flatOk hk)
  obtain ⟨_, css, hr, _⟩ := HO
  rcases hr.2 with ⟨rfl, hn⟩ | ⟨g, cap, cur, rfl, hB, hg, hnc, hcm, hcur, htake⟩
  · exact .inl ⟨rfl, List.eq_nil_of_length_eq_zero hn⟩
  · refine .inr ⟨g, cap, rfl, hnc, hcm, hB, (Array.getElem?_eq_some_iff.1 hg).1, holds_of hk (fun j x hx => ?_) (fun o => by unfold World.frozen?; rw [hg]; simp)⟩
    have hj : j < xs.length := (List.getElem?_eq_some_iff.1 hx).1
    obtain ⟨b, off, c2, he, _, _, _, _, hce⟩ := hsl.addr (by omega)
    simp only [Value.slice.injEq, Option.some.injEq, Addr.mk.injEq] at he
    obtain ⟨⟨h1, h2, _⟩, _, h3⟩ := he
    subst h1; subst h2; subst h3
    obtain ⟨cs, q1, q2, q3⟩ := hce j hj
    have : xs[j]'hj = x := (List.getElem?_eq_some_iff.1 hx).2
    rw [this] at q1
    cases q1
    exact ⟨_, rfl, q2, q3⟩
theorem inv_ltB {a b c : ByteArray} (h1 : ltB a b = false) (h2 : ltB b c = false) : ltB a c = false := by
  cases h : ltB a c with
  | false => rfl
  | true =>
    rcases ltB_tri a b with h3 | h3 | h3
    · rw [h3] at h1; cases h1
    · subst h3; rw [h] at h2; cases h2
    · have := ltB_trans h3 h; rw [this] at h2; cases h2
theorem swoL : SWO ltL := ⟨fun _ => ltB_irrefl _, fun _ _ _ h1 h2 => ltB_trans h1 h2, fun _ _ _ h1 h2 => inv_ltB h1 h2⟩
/-- cmp.Compare's answer. -/
def cmpB (a b : ByteArray) : Int := if ltB a b = true then -1 else if ltB b a = true then 1 else 0
theorem cmpL_spec : ∀ a b : List UInt8, Lib.compareBytes a b = if Op.bytesLess a b = true then -1 else if Op.bytesLess b a = true then 1 else 0
  | [], [] => rfl
  | [], _ :: _ => rfl
  | _ :: _, [] => rfl
  | a :: x, b :: y => by
    rw [Lib.compareBytes, Op.bytesLess, Op.bytesLess, cmpL_spec x y]
    by_cases h1 : a < b
    · simp [h1]
    · by_cases h2 : b < a
      · have : ¬ a = b := fun h => by subst h; exact absurd h2 (by simp)
        simp [h1, h2, this]
      · have : a = b := by
          rcases UInt8.lt_or_lt_of_ne (a := a) (b := b) with h
          by_cases h3 : a = b
          · exact h3
          · rcases UInt8.lt_or_lt_of_ne h3 with h4 | h4
            · exact absurd h4 h1
            · exact absurd h4 h2
        subst this
        simp
theorem cmpB_neg (a b : ByteArray) : decide (cmpB a b < 0) = ltB a b := by
  unfold cmpB
  cases h : ltB a b <;> cases h2 : ltB b a <;> rfl
theorem ltI_of : ltOf (fun x y : Itm => cmpB x.name y.name) = ltI := by
  funext x y
  exact cmpB_neg _ _
theorem swoI : SWO (ltOf (fun x y : Itm => cmpB x.name y.name)) := by
  rw [ltI_of]
  exact ⟨fun _ => ltB_irrefl _, fun _ _ _ h1 h2 => ltB_trans h1 h2, fun _ _ _ h1 h2 => inv_ltB h1 h2⟩
def cmpT (x y : Tnt) : Int := if cmpB x.key y.key ≠ 0 then cmpB x.key y.key else cmpB x.eff y.eff
theorem ltT_of : ltOf cmpT = ltT := by
  funext x y
  show decide (cmpT x y < 0) = ltT x y
  unfold cmpT ltT
  rcases ltB_tri x.key y.key with h | h | h
  · have : cmpB x.key y.key = -1 := by unfold cmpB; rw [h]; rfl
    rw [this, h]; rfl
  · have : cmpB x.key y.key = 0 := by unfold cmpB; rw [h, ltB_irrefl]; rfl
    rw [this, h, ltB_irrefl]
    simpa using cmpB_neg x.eff y.eff
  · have h' := ltB_asymm h
    have : cmpB x.key y.key = 1 := by unfold cmpB; rw [h, h']; rfl
    have hk : (x.key.toList == y.key.toList) = false := by
      rw [beq_eq_false_iff_ne]
      intro h2
      rw [ba_toList_inj.1 h2, ltB_irrefl] at h
      cases h
    rw [this, h', hk]; rfl
theorem swoT : SWO (ltOf cmpT) := by
  rw [ltT_of]
  refine ⟨fun _ => ordT.irrefl _, fun _ _ _ h1 h2 => ordT.trans h1 h2, fun x y z h1 h2 => ?_⟩
  cases h : ltT x z with
  | false => rfl
  | true =>
    rcases ltT_tri x y with h3 | h3 | h3
    · rw [h3] at h1; cases h1
    · have hs : x.key = y.key ∧ x.eff = y.eff := by
        unfold sameT at h3
        simpa only [Bool.and_eq_true, beq_iff_eq, ba_toList_inj] using h3
      have : ltT x z = ltT y z := by unfold ltT; rw [hs.1, hs.2]
      rw [this, h2] at h; cases h
    · have := ordT.trans h3 h; rw [this] at h2; cases h2

/-! ### the closures -/
theorem cmpB_bytes (a b : ByteArray) : Lib.compareBytes a.data.toList b.data.toList = cmpB a b := by
  rw [← Lib.toList_data, ← Lib.toList_data, cmpL_spec]
  rfl
set_option maxRecDepth 100000 in
set_option maxHeartbeats 2000000 in
theorem isNaN_c (a : ByteArray) (w : World) : Calls Tryz.prog 211 #[.string a] w fun e w' => e = .returned (.bool false) ∧ w' = w := by
  go_enter Tryz.func211, Tryz.ntmps211
  go_wp2
  go_ret
  exact ⟨by simp, rfl⟩
set_option maxRecDepth 100000 in
set_option maxHeartbeats 2000000 in
theorem cmpS_c (a b : ByteArray) (w : World) : Calls Tryz.prog 127 #[.string a, .string b] w fun e w' => e = .returned (.int .i64 (cmpB a b)) ∧ w' = w := by
  have hn := fun x W => isNaN_c x W
  obtain ⟨R, hRd⟩ : ∃ R : Ending → World → Prop, R = fun e w' => e = .returned (.int .i64 (cmpB a b)) ∧ w' = w := ⟨_, rfl⟩
  have hv : R (.returned (.int .i64 (cmpB a b))) w := by rw [hRd]; exact ⟨rfl, rfl⟩
  rw [← hRd]
  clear hRd
  unfold cmpB ltB at hv
  have hgt : Op.bytesLess a.toList b.toList = false → (!(Op.bytesLess a.toList b.toList || a.toList == b.toList)) = Op.bytesLess b.toList a.toList := fun h => by
    have := gtB_eq a b
    unfold gtB ltB at this
    rw [← this, h]
    simp
  cases e1 : Op.bytesLess a.toList b.toList with
  | true =>
    rw [e1] at hv
    clear hgt
    go_enter Tryz.func127, Tryz.ntmps127
    go_wp2_with (go_at_call 211; refine (hn _ _).mono ?_; rintro e w' ⟨rfl, rfl⟩)
    exact hv
  | false =>
    have h2 := hgt e1
    rw [e1] at hv h2
    clear hgt
    cases e2 : (a.toList == b.toList) <;> cases e3 : Op.bytesLess b.toList a.toList <;> first
      | (rw [e2, e3] at h2; cases h2; done)
      | (rw [e3] at hv
         clear h2
         go_enter Tryz.func127, Tryz.ntmps127
         go_wp2_with (go_at_call 211; refine (hn _ _).mono ?_; rintro e w' ⟨rfl, rfl⟩)
         exact hv)

set_option maxRecDepth 100000 in
set_option maxHeartbeats 2000000 in
theorem compare_c (x y : Tnt) (W : World) : Calls Tryz.prog 121 #[.agg (tntC x).toArray, .agg (tntC y).toArray] W fun e w' => e = .returned (.int .i64 (cmpT x y)) ∧ ∃ q os', w' = grow (W.drewN q) os' := by
  obtain ⟨R, hRd⟩ : ∃ R : Ending → World → Prop, R = fun e w' => e = .returned (.int .i64 (cmpT x y)) ∧ ∃ q os', w' = grow (W.drewN q) os' := ⟨_, rfl⟩
  have hv : R (.returned (.int .i64 (cmpT x y))) ((W.alloc (.cells #[.string x.key, .string x.val, .string x.eff] 34)).alloc (.cells #[.string y.key, .string y.val, .string y.eff] 34)) := by
    rw [hRd]
    exact ⟨rfl, 0, #[.cells #[.string x.key, .string x.val, .string x.eff] 34, .cells #[.string y.key, .string y.val, .string y.eff] 34], by rw [alloc_eq_grow, alloc_eq_grow, grow_grow]; rfl⟩
  rw [← hRd]
  clear hRd
  have hc := fun (a b : ByteArray) (w : World) => Tryz.strings_Compare a b w
  simp only [cmpB_bytes] at hc
  unfold cmpT at hv
  show Calls _ _ #[.agg #[.string x.key, .string x.val, .string x.eff], .agg #[.string y.key, .string y.val, .string y.eff]] W R
  obtain ⟨r1, h1⟩ : ∃ r1, cmpB x.key y.key = r1 := ⟨_, rfl⟩
  obtain ⟨r2, h2⟩ : ∃ r2, cmpB x.eff y.eff = r2 := ⟨_, rfl⟩
  have hc1 := fun w => hc x.key y.key w
  have hc2 := fun w => hc x.eff y.eff w
  rw [h1] at hc1 hv
  rw [h2] at hc2 hv
  clear hc h1 h2
  by_cases h0 : r1 = 0
  · rw [if_neg (by omega)] at hv
    subst h0
    go_enter Tryz.func121, Tryz.ntmps121
    go_wp2_with (go_at_call 207; first | (refine (hc1 _).mono ?_; rintro e w' ⟨rfl, rfl⟩) | (refine (hc2 _).mono ?_; rintro e w' ⟨rfl, rfl⟩))
    exact hv
  · rw [if_pos h0] at hv
    go_enter Tryz.func121, Tryz.ntmps121
    go_wp2_with (go_at_call 207; first | (refine (hc1 _).mono ?_; rintro e w' ⟨rfl, rfl⟩) | (refine (hc2 _).mono ?_; rintro e w' ⟨rfl, rfl⟩))
    exact hv
set_option maxRecDepth 100000 in
set_option maxHeartbeats 2000000 in
theorem lessI_c (x y : Itm) (W : World) : Calls Tryz.prog 126 #[.agg (itmC x).toArray, .agg (itmC y).toArray] W fun e w' => e = .returned (.int .i64 (cmpB x.name y.name)) ∧ ∃ q os', w' = grow (W.drewN q) os' := by
  obtain ⟨R, hRd⟩ : ∃ R : Ending → World → Prop, R = fun e w' => e = .returned (.int .i64 (cmpB x.name y.name)) ∧ ∃ q os', w' = grow (W.drewN q) os' := ⟨_, rfl⟩
  have hv : R (.returned (.int .i64 (cmpB x.name y.name))) ((W.alloc (.cells #[.string x.name, .int .i64 x.n] 110)).alloc (.cells #[.string y.name, .int .i64 y.n] 110)) := by
    rw [hRd]
    exact ⟨rfl, 0, #[.cells #[.string x.name, .int .i64 x.n] 110, .cells #[.string y.name, .int .i64 y.n] 110], by rw [alloc_eq_grow, alloc_eq_grow, grow_grow]; rfl⟩
  rw [← hRd]
  clear hRd
  have hc := fun (w : World) => cmpS_c x.name y.name w
  show Calls _ _ #[.agg #[.string x.name, .int .i64 x.n], .agg #[.string y.name, .int .i64 y.n]] W R
  obtain ⟨r1, h1⟩ : ∃ r1, cmpB x.name y.name = r1 := ⟨_, rfl⟩
  rw [h1] at hc hv
  clear h1
  go_enter Tryz.func126, Tryz.ntmps126
  go_wp2_with (go_at_call 127; refine (hc _).mono ?_; rintro e w' ⟨rfl, rfl⟩)
  exact hv
set_option maxRecDepth 100000 in
set_option maxHeartbeats 2000000 in
theorem lessL_c (blk off c Bs size : Nat) (W : World) (G : Nat → ByteArray) (hs : W.cell? ⟨Bs, 0, none⟩ = some (.slice (some ⟨blk, off, none⟩) size c))
    (hc : ∀ t, t < size → W.cell? ⟨blk, off + t * 2, none⟩ = some (.string (G t))) (i j : Nat) (hi : i < size) (hj : j < size) (_ : size < 4611686018427387904) :
    Calls Tryz.prog 203 #[.int .i64 i, .int .i64 j, .pointer (some ⟨Bs, 0, none⟩)] W fun e w' => e = .returned (.bool (ltB (G i) (G j))) ∧ ∃ q, w' = W.drewN q := by
  have ci := hc i hi
  have cj := hc j hj
  unfold ltB
  go_enter Tryz.func203, Tryz.ntmps203
  go_wp2
  go_quiet (fail)
  go_wp2
  go_ret
  exact ⟨rfl, nq, rfl⟩
/-! ### the sorts -/
theorem there_sorted {α : Type} [Inhabited α] {enc : α → List Value} {k : Nat} (w : World) (b0 n0 : Nat) (d : Array α) (os : Array Obj) {b off n : Nat} (hb : b < w.heap.size)
    (h : ∀ j, j < n → (w.cell? ⟨b, off + j, none⟩).isSome = true ∧ w.frozen? ⟨b, off + j, none⟩ = false) :
    ∀ j, j < n → ((grow (putRowK enc k (Sort.ahead w n0) b0 0 d) os).cell? ⟨b, off + j, none⟩).isSome = true ∧ (grow (putRowK enc k (Sort.ahead w n0) b0 0 d) os).frozen? ⟨b, off + j, none⟩ = false := fun j hj => by
  obtain ⟨h1, h2⟩ := h j hj
  have e : (grow (putRowK enc k (Sort.ahead w n0) b0 0 d) os).heap[b]? = (w.heap[b]?).map (fun o => if b0 = b then onCells (putCells id 0 (flatK enc k d)) o else o) := by
    show ((w.heap.modify b0 _) ++ os)[b]? = _
    rw [Array.getElem?_append_left (by simpa using hb), Array.getElem?_modify]
    by_cases hk : b0 = b
    · simp only [hk, if_true]
    · simp [hk]
  unfold World.cell? at h1 ⊢
  unfold World.frozen? at h2 ⊢
  rw [e]
  cases hh : w.heap[b]? with
  | none => rw [hh] at h1; simp at h1
  | some o =>
    rw [hh] at h1 h2
    cases o with
    | cells c ty fr =>
      by_cases hk : b0 = b
      · simp only [Option.map_some, hk, if_true, onCells] at h1 h2 ⊢
        refine ⟨?_, h2⟩
        simpa [putCells] using h1
      · simp only [Option.map_some, hk, if_false]
        exact ⟨h1, h2⟩
    | _ => simp at h1
theorem room_sorted {α : Type} [Inhabited α] {enc : α → List Value} {k sz : Nat} {w : World} {X Y : Nat → Prop} {v : Value} {n : Nat} (h : RoomV sz X w v n) (hXY : ∀ k, X k → Y k) (b0 n0 : Nat) (d : Array α) (os : Array Obj) :
    RoomV sz Y (grow (putRowK enc k (Sort.ahead w n0) b0 0 d) os) v n := by
  obtain ⟨A, c, h1, h2, h3, h4⟩ := h
  refine ⟨A, c, h1, h2, h3, h4.imp id ?_⟩
  rintro ⟨b, off, hA, hX, hb, ht⟩
  exact ⟨b, off, hA, hXY b hX, Nat.lt_of_lt_of_le hb (mod_sorted (enc := enc) (k := k) w b0 n0 d os).size, there_sorted w b0 n0 d os hb ht⟩
set_option maxRecDepth 100000 in
set_option maxHeartbeats 2000000 in
theorem sortT_k (R : Ending → World → Prop) (w : World) (B : Nat) (v : Value) (xs : List Tnt) (HO : OwnK tntK 3 34 w B (fun _ => False) v xs) (hB : B ≤ w.heap.size) (hd : Dist ltT xs) (hl : xs.length ≤ 1048576)
    (hR : ∀ w', Below B w w' → SlR tntK 3 w' (fun j => B ≤ j) v (srt ltT xs) → R (.returned (.tuple #[])) w') :
    Calls Tryz.prog 122 #[v, .func (.func 121) #[] #[]] w R := by
  rcases HO.holds (enc := tntC) (k := 3) (fun _ => rfl) with ⟨rfl, rfl⟩ | ⟨b, c, rfl, hnc, hcm, hBb, hb, hH⟩
  · refine (AnyF.slices_SortFunc_none (P := Tryz.prog) (ρ := Tryz.sortT_ren) { Tryz.sortT with } none 0 (.func (.func 121) #[] #[]) w).mono ?_
    rintro e w' ⟨rfl, rfl⟩
    exact hR _ (Below.refl _ _) SlR.nil
  · have hS := AnyQ.slices_SortFunc Tryz.sortT 3 (fun _ => by kernel_rfl) (fun _ => by kernel_rfl) tntC (fun _ => rfl) (fun x v hv => by simp [tntC] at hv; rcases hv with rfl | rfl | rfl <;> rfl) cmpT swoT 121 #[] b 0 c xs.toArray w
      (enters_of Tryz.func121 (by kernel_rfl) rfl) (fun _ _ _ _ x y => compare_c x y _) hH hb (by simp; omega)
    refine hS.mono ?_
    rintro e w' ⟨rfl, d', n, os, hp, hs, rfl⟩
    have hd' := sortOf_list hd hp (by rw [ltT_of] at hs; exact hs)
    have hM := mod_sorted (enc := tntC) (k := 3) w b n d' os
    have hsz : d'.size = xs.length := by simpa using hp.1
    have hH' : HoldsK tntC 3 (grow (putRowK tntC 3 (Sort.ahead w n) b 0 d') os) b 0 d' := holdsK_grow _ _ _ _ b 0 d' (by rw [size_putRowK]; exact hb) (holdsK_putRowK _ _ _ b 0 _ d' (holdsK_ahead _ _ _ _ _ _ _ hH) hp.1)
    have hsl := slk_of (enc := tntC) (k := 3) (ok := fun j => B ≤ j) (c := c) (fun _ => rfl) hH' (Nat.lt_of_lt_of_le hb hM.size) hBb (by omega) hcm
    rw [hsz, ← SortOf.srt ordT hd'] at hsl
    exact hR _ ⟨hM.os, hM.tape, hM.output, hM.size, fun j hj => hM.block j (Nat.lt_of_lt_of_le hj hB) (fun h => by omega)⟩ ⟨hsl, by rw [srt_length]; exact room_sorted HO.room (fun k hk => (HO.own k hk).1) b n d' os⟩
set_option maxRecDepth 100000 in
set_option maxHeartbeats 2000000 in
theorem sortI_k (R : Ending → World → Prop) (w : World) (B : Nat) (v : Value) (xs : List Itm) (HO : OwnK itmK 2 110 w B (fun _ => False) v xs) (hB : B ≤ w.heap.size) (hd : Dist ltI xs) (hl : xs.length ≤ 1048576)
    (hR : ∀ w', Below B w w' → SlR itmK 2 w' (fun j => B ≤ j) v (srt ltI xs) → R (.returned (.tuple #[])) w') :
    Calls Tryz.prog 125 #[v, .func (.func 126) #[] #[]] w R := by
  rcases HO.holds (enc := itmC) (k := 2) (fun _ => rfl) with ⟨rfl, rfl⟩ | ⟨b, c, rfl, hnc, hcm, hBb, hb, hH⟩
  · refine (AnyF.slices_SortFunc_none (P := Tryz.prog) (ρ := Tryz.sortI_ren) { Tryz.sortI with } none 0 (.func (.func 126) #[] #[]) w).mono ?_
    rintro e w' ⟨rfl, rfl⟩
    exact hR _ (Below.refl _ _) SlR.nil
  · have hS := AnyQ.slices_SortFunc Tryz.sortI 2 (fun _ => by kernel_rfl) (fun _ => by kernel_rfl) itmC (fun _ => rfl) (fun x v hv => by simp [itmC] at hv; rcases hv with rfl | rfl <;> rfl) (fun x y : Itm => cmpB x.name y.name) swoI 126 #[] b 0 c xs.toArray w
      (enters_of Tryz.func126 (by kernel_rfl) rfl) (fun _ _ _ _ x y => lessI_c x y _) hH hb (by simp; omega)
    refine hS.mono ?_
    rintro e w' ⟨rfl, d', n, os, hp, hs, rfl⟩
    have hd' := sortOf_list hd hp (by rw [ltI_of] at hs; exact hs)
    have hM := mod_sorted (enc := itmC) (k := 2) w b n d' os
    have hsz : d'.size = xs.length := by simpa using hp.1
    have hH' : HoldsK itmC 2 (grow (putRowK itmC 2 (Sort.ahead w n) b 0 d') os) b 0 d' := holdsK_grow _ _ _ _ b 0 d' (by rw [size_putRowK]; exact hb) (holdsK_putRowK _ _ _ b 0 _ d' (holdsK_ahead _ _ _ _ _ _ _ hH) hp.1)
    have hsl := slk_of (enc := itmC) (k := 2) (ok := fun j => B ≤ j) (c := c) (fun _ => rfl) hH' (Nat.lt_of_lt_of_le hb hM.size) hBb (by omega) hcm
    rw [hsz, ← SortOf.srt ordI hd'] at hsl
    exact hR _ ⟨hM.os, hM.tape, hM.output, hM.size, fun j hj => hM.block j (Nat.lt_of_lt_of_le hj hB) (fun h => by omega)⟩ ⟨hsl, by rw [srt_length]; exact room_sorted HO.room (fun k hk => (HO.own k hk).1) b n d' os⟩
noncomputable def infoLs : TypeInfo := (Tryz.prog.info? 22).get (by kernel_rfl)
noncomputable def infoLe : TypeInfo := (Tryz.prog.info? 118).get (by kernel_rfl)
theorem swapL (n : Nat) (h2 : 2 ≤ n) : Lib.swapperK n infoLe 25 = 9 := by
  have a : infoLe.hasPointers = true := by kernel_rfl
  have b : infoLe.bytes = 32 := by kernel_rfl
  have c : (n == 0) = false := by simp; omega
  have d : (n == 1) = false := by simp; omega
  simp [Lib.swapperK, a, b, c, d]
set_option maxRecDepth 100000 in
set_option maxHeartbeats 2000000 in
theorem sortL_k (R : Ending → World → Prop) (w : World) (B Bs : Nat) (v : Value) (xs : List Lab) (HO : OwnK labK 2 118 w B (fun _ => False) v xs) (hd : Dist ltL xs) (hl : xs.length ≤ 1048576)
    (hBs : w.cell? ⟨Bs, 0, none⟩ = some v) (hB1 : Bs < w.heap.size) (hB2 : v.ownBlock ≠ some Bs)
    (hR : ∀ w', Mod (fun j => v.ownBlock = some j) w w' → SlR labK 2 w' (fun j => B ≤ j) v (srt ltL xs) → R (.returned (.tuple #[])) w') :
    Calls Tryz.prog 202 #[.iface 22 v, .func (.func 203) #[] #[.pointer (some ⟨Bs, 0, none⟩)]] w R := by
  have tiny : ∀ (p : Option Addr) (n c : Nat), n ≤ 1 → Calls Tryz.prog 202 #[.iface 22 (.slice p n c), .func (.func 203) #[] #[.pointer (some ⟨Bs, 0, none⟩)]] w fun e w' => e = .returned (.tuple #[]) ∧ ∃ os, w' = grow w os := by
    intro p n c hn
    rcases Nat.lt_or_ge n 1 with h | h
    · obtain rfl : n = 0 := by omega
      exact Any.sort_Slice_tiny Tryz.laysGg6 22 118 infoLs infoLe (by kernel_rfl) (by kernel_rfl) (by kernel_rfl) (by kernel_rfl) 25 (fun _ => by kernel_rfl) p 0 c (by omega) 293 (by kernel_rfl) _ _ _ w
    · obtain rfl : n = 1 := by omega
      exact Any.sort_Slice_tiny Tryz.laysGg6 22 118 infoLs infoLe (by kernel_rfl) (by kernel_rfl) (by kernel_rfl) (by kernel_rfl) 25 (fun _ => by kernel_rfl) p 1 c (by omega) 294 (by kernel_rfl) _ _ _ w
  have hsl0 := HO.slk labOk
  have own := HO.own
  have hgrow : ∀ os, Mod (fun j => v.ownBlock = some j) w (grow w os) := fun os => ⟨rfl, rfl, rfl, by rw [size_grow]; omega, fun j hj _ => by show (w.heap ++ os)[j]? = _; rw [Array.getElem?_append_left hj]⟩
  rcases HO.holds (enc := labC) (k := 2) (fun _ => rfl) with ⟨rfl, rfl⟩ | ⟨b, c, rfl, hnc, hcm, hBb, hb, hH⟩
  · refine (tiny none 0 0 (by omega)).mono ?_
    rintro e w' ⟨rfl, os, rfl⟩
    exact hR _ (hgrow os) SlR.nil
  · rcases Nat.lt_or_ge xs.length 2 with h2 | h2
    · refine (tiny _ xs.length c (by omega)).mono ?_
      rintro e w' ⟨rfl, os, rfl⟩
      have hself : srt ltL xs = xs := by
        match xs, h2 with
        | [], _ => rfl
        | [x], _ => rfl
        | _ :: _ :: _, h => simp at h; omega
      refine hR _ (hgrow os) ?_
      rw [hself]
      refine ⟨(hsl0.move labOk (fun j hj => ?_)).mono labOk (fun j hj => ?_), HO.room.move (fun j hj _ => ?_) (fun j hj => (own j hj).1) (hgrow os).size⟩
      · rcases hj with hj | hj
        · exact hj.elim
        · show (w.heap ++ os)[j]? = _
          rw [Array.getElem?_append_left (own j hj).2]
      · rcases hj with hj | hj
        · exact hj.elim
        · exact (own j hj).1
      · show (w.heap ++ os)[j]? = _
        rw [Array.getElem?_append_left (own j hj).2]
    · have hne : Bs ≠ b := fun h => hB2 (by rw [h]; rfl)
      have hless : LessReadsK Tryz.prog 203 #[.pointer (some ⟨Bs, 0, none⟩)] labC 2 ltL b 0 xs.toArray.size w := by
        intro m os dk hs i j hi hj
        have e : sortWorldK labC 2 w b 0 m dk os = putRowK labC 2 (grow (Sort.ahead w m) os) b 0 dk := by
          unfold sortWorldK; rw [putRowK_grow _ _ (Sort.ahead w m) _ b 0 _ hb]
        have hHg : HoldsK labC 2 (grow (Sort.ahead w m) os) b 0 xs.toArray := holdsK_grow _ _ _ _ b 0 _ hb (holdsK_ahead _ _ _ _ _ _ _ hH)
        refine lessL_c b 0 c Bs xs.toArray.size _ (fun t => dk[t]!.key) ?_ (fun t ht => ?_) i j hi hj (by simp; omega)
        · rw [e, cell?_putRowK_other _ _ _ b 0 dk _ (by exact hne), cell?_grow _ _ _ (by exact hB1)]; simpa using hBs
        · rw [e]; exact ((holdsK_putRowK _ _ _ b 0 _ dk hHg hs).cell (i := t) (c := 0) (by omega) (by omega)).1
      have hS := Any.sort_Slice_cells_sorted Tryz.laysGg6 22 118 infoLs infoLe (by kernel_rfl) (by kernel_rfl) (by kernel_rfl) (by kernel_rfl) 25 (fun _ => by kernel_rfl) labC 2 (fun _ => rfl) (by kernel_rfl) (fun _ => by kernel_rfl)
        (fun x v hv => by simp [labC] at hv; rcases hv with rfl | rfl <;> rfl) ltL swoL 203 _
        (enters_of Tryz.func203 (by kernel_rfl) rfl) b 0 c xs.toArray (by simpa using h2) (by simp; omega) 301 (by rw [swapL _ (by simpa using h2)]; kernel_rfl) false
        (fun args W => run_callFunc_extern Tryz.func301 (by kernel_rfl) (by kernel_rfl) (by kernel_rfl) (e := Extern.ReflectliteSwapper.swap false) (by kernel_rfl) args W) w hless hH hb
      refine hS.mono ?_
      rintro e w' ⟨rfl, d', n, os, hp, hs, rfl⟩
      have hd' := sortOf_list hd hp hs
      have hM := mod_sorted (enc := labC) (k := 2) w b n d' os
      have hsz : d'.size = xs.length := by simpa using hp.1
      have hH' : HoldsK labC 2 (grow (putRowK labC 2 (Sort.ahead w n) b 0 d') os) b 0 d' := holdsK_grow _ _ _ _ b 0 d' (by rw [size_putRowK]; exact hb) (holdsK_putRowK _ _ _ b 0 _ d' (holdsK_ahead _ _ _ _ _ _ _ hH) hp.1)
      have hsl := slk_of (enc := labC) (k := 2) (ok := fun j => B ≤ j) (c := c) (fun _ => rfl) hH' (Nat.lt_of_lt_of_le hb hM.size) hBb (by omega) hcm
      rw [hsz, ← SortOf.srt ordL hd'] at hsl
      exact hR _ ⟨hM.os, hM.tape, hM.output, hM.size, fun j hj hjb => hM.block j hj (fun h => hjb (by rw [h]; rfl))⟩ ⟨hsl, by rw [srt_length]; exact room_sorted HO.room (fun k hk => (HO.own k hk).1) b n d' os⟩
end Go.Proofs.YtdceflgemhcgcaaGreatDoor

namespace Go.Proofs.YtdceflgemhcgcaaGreatDoor
open Go.RowKit Go.BigFrame

set_option maxRecDepth 100000 in
set_option maxHeartbeats 2000000 in
theorem cloneL_k (R : Ending → World → Prop) (w : World) (ok : Nat → Prop) (v : Value) (xs : List Lab) (hok : ∀ k, ok k → k < w.heap.size) (hx : SlK labK 2 w ok v xs) (hl : xs.length ≤ 1073741824)
    (hR : ∀ v' w', Below w.heap.size w w' → OwnK labK 2 118 w' w.heap.size (fun _ => False) v' xs → R (.returned v') w') :
    Calls Tryz.prog 129 #[v] w R := by
  have hO : OwnK labK 2 118 (w.alloc (.cells #[] 118)) w.heap.size (fun _ => False) (.slice (some ⟨w.heap.size, 0, none⟩) 0 0) ([] : List Lab) := OwnK.made (fun _ h => h.elim) (Nat.le_refl _) (by simp [maxLen]) rfl
  have hB0 : Below w.heap.size w (w.alloc (.cells #[] 118)) := Below.alloc (Below.refl _ _) (Nat.le_refl _) _
  have hx' := (hx.below labOk hB0 hok)
  obtain ⟨A, c, rfl, hlc, _⟩ := hx.form
  have HR := Lib.hid hR
  clear hR
  cases A with
  | none =>
    obtain rfl := hx.nil_of rfl
    have hv2 := HR.out _ _ (Below.refl _ _) (OwnK.nil (fun _ h => h.elim))
    have he : ∀ W : World, (binOp .eql 22 (.slice none 0 c) (.slice none 0 0)).run Tryz.prog W = .ok (.bool true) W := fun W => Lib.run_eql_slice_nil W _ _ none 0 c 0 0 Tryz.underlying22
    go_enter Tryz.func129, Tryz.ntmps129
    go_wp2_with fail
    exact hv2
  | some A =>
    have he : ∀ W : World, (binOp .eql 22 (.slice (some A) xs.length c) (.slice none 0 0)).run Tryz.prog W = .ok (.bool false) W := fun W => Lib.run_eql_slice_nil W _ _ (some A) xs.length c 0 0 Tryz.underlying22
    go_enter Tryz.func129, Tryz.ntmps129
    go_wp2_with (at_builtin; refine append_row_k labOk rfl _ _ 22 118 (.agg #[.string ⟨#[]⟩, .string ⟨#[]⟩]) 32 w.heap.size (fun _ => False) ok (fun _ _ h => h) rfl Tryz.underlying22 infoLab rfl (by decide) (by decide) _ _ [] xs rfl rfl ?c1 hO hx' ?c2 ?c3 ?_)
    case c1 =>
      intro _ _ _ _ h u hu
      cases h
      simp [labC] at hu
      rcases hu with rfl | rfl <;> rfl
    case c2 => simp
    case c3 => simp; omega
    intro v2 w2 hO2 hg2 hat
    have hB2 := hB0.grown hg2 hB0.size (fun k h => (hO.own k h).1)
    have hv2 := HR.out _ _ hB2 hO2
    go_wp2_with fail
    exact hv2
set_option maxRecDepth 100000 in
theorem clip_k (R : Ending → World → Prop) (w : World) (v : Value) (xs : List Lab) (B : Nat) (HO : (v = .slice none 0 0) ∨ ∃ b c, v = .slice (some ⟨b, 0, none⟩) xs.length c ∧ xs.length ≤ c ∧ c ≤ maxLen) (hx : SlR labK 2 w (fun j => B ≤ j) v xs)
    (hR : ∀ v', SlR labK 2 w (fun j => B ≤ j) v' xs → R (.returned v') w) :
    Calls Tryz.prog 204 #[v] w R := by
  rcases HO with rfl | ⟨b, c, rfl, hc, hcm⟩
  · have hv := hR _ hx
    clear hR hx
    go_enter Tryz.func204, Tryz.ntmps204
    go_wp2_with fail
    exact hv
  · have hv := hR (.slice (some ⟨b, 0, none⟩) xs.length xs.length) (by
      obtain ⟨⟨A, c2, he, h1, h2, h3⟩, hr⟩ := hx
      simp only [Value.slice.injEq] at he
      obtain ⟨rfl, _, rfl⟩ := he
      exact ⟨⟨_, _, rfl, Nat.le_refl _, by omega, h3⟩, hr.clip⟩)
    clear hR hx
    simp only [maxLen] at hcm
    go_enter Tryz.func204, Tryz.ntmps204
    go_wp2_with fail
    exact hv
theorem OwnK.form2 {α : Type} {K : KRel α} {sz : Nat} {e : TypeId} {w : World} {B : Nat} {ok : Nat → Prop} {v : Value} {xs : List α} (h : OwnK K sz e w B ok v xs) : v = .slice none 0 0 ∨ ∃ b c, v = .slice (some ⟨b, 0, none⟩) xs.length c ∧ xs.length ≤ c ∧ c ≤ maxLen := by
  obtain ⟨_, css, hr, _⟩ := h
  rcases hr.2 with ⟨rfl, hn⟩ | ⟨g, cap, cur, rfl, hB, hg, hnc, hcm, _⟩
  · exact .inl rfl
  · exact .inr ⟨g, cap, rfl, hnc, hcm⟩
theorem OwnK.one {α : Type} {K : KRel α} {sz : Nat} {e : TypeId} {w : World} {B : Nat} {ok : Nat → Prop} {v : Value} {xs : List α} (h : OwnK K sz e w B ok v xs) : v.oneCell' = true := by
  rcases h.form2 with rfl | ⟨b, c, rfl, _⟩ <;> rfl
set_option maxRecDepth 100000 in
set_option maxHeartbeats 2000000 in
theorem sorted_k (R : Ending → World → Prop) (w : World) (ok : Nat → Prop) (v : Value) (xs : List Lab) (hok : ∀ k, ok k → k < w.heap.size) (hx : SlK labK 2 w ok v xs) (hl : xs.length ≤ 1048576) (hd : Dist ltL xs)
    (hR : ∀ v' w', Below w.heap.size w w' → SlR labK 2 w' (fun k => w.heap.size ≤ k) v' (srt ltL xs) → R (.returned v') w') :
    Calls Tryz.prog 117 #[v] w R := by
  have HR := Lib.hid hR
  have HX := Lib.hid hx
  have HOK := Lib.hid hok
  have HD := Lib.hid hd
  clear hR hx hok hd
  go_enter Tryz.func117, Tryz.ntmps117
  go_wp2_with fail
  refine cloneL_k _ _ ok _ xs HOK.out HX.out (by omega) ?_
  intro v1 w1 g1 hO1
  obtain ⟨A1, c1, rfl, hc1⟩ := hO1.slice
  obtain ⟨v1, hv1⟩ : ∃ v1, v1 = Value.slice A1 xs.length c1 := ⟨_, rfl⟩
  rw [← hv1] at hO1
  have G1 := Lib.hid g1
  obtain ⟨w2, hw2⟩ : ∃ w2, w2 = w1.alloc (.cells #[v1] 22) := ⟨_, rfl⟩
  have hO2 : OwnK labK 2 118 w2 w.heap.size (fun _ => False) v1 xs := by rw [hw2]; exact hO1.alloc labOk _
  have hBs : w2.cell? ⟨w1.heap.size, 0, none⟩ = some v1 := by rw [hw2]; exact cell_at (heap_alloc_new w1 _) rfl
  have hlt : w1.heap.size < w2.heap.size := by rw [hw2]; simp
  have G2 := Lib.hid (show Below w.heap.size w w2 by rw [hw2]; exact Below.alloc G1.out G1.out.size _)
  have hne : v1.ownBlock ≠ some w1.heap.size := fun h => by have := (hO1.own _ h).2; omega
  have hone := hO1.one
  have HF := Lib.hid hO1.form2
  have HO := Lib.hid hO2
  have HO1 := Lib.hid hO1
  have HBS := Lib.hid hBs
  have HNE := Lib.hid hne
  clear hO2 hO1 g1 hne hBs
  subst hv1
  go_upto_region 2 with fail
  rw [← hw2]
  clear hw2
  have hBs := HBS.out
  go_wp2_with fail
  refine sortL_k _ _ w.heap.size w1.heap.size _ xs HO.out HD.out hl hBs hlt HNE.out ?_
  intro w3 g3 hs3
  have hb3 : w3.cell? ⟨w1.heap.size, 0, none⟩ = some (.slice A1 xs.length c1) := g3.cell' hBs HNE.out
  have G3 := Lib.hid (show Below w.heap.size w w3 from ⟨g3.os.trans G2.out.os, g3.tape.trans G2.out.tape, g3.output.trans G2.out.output, Nat.le_trans G2.out.size g3.size, fun k hk => (g3.block k (Nat.lt_of_lt_of_le hk G2.out.size) (fun h => by have := (HO.out.own _ h).1; omega)).trans (G2.out.block k hk)⟩)
  have HS3 := Lib.hid hs3
  clear g3 hs3 hBs
  go_wp2_with fail
  refine clip_k _ _ _ (srt ltL xs) w.heap.size (by rw [srt_length]; exact HF.out) HS3.out ?_
  intro v4 hs4
  have hv := HR.out v4 w3 G3.out hs4
  clear hs4
  go_wp2_with fail
  exact hv
end Go.Proofs.YtdceflgemhcgcaaGreatDoor

namespace Go.Proofs.YtdceflgemhcgcaaGreatDoor
open Go.RowKit Go.BigFrame

def seenB (xs : List Lab) (k : Nat) (key : ByteArray) : Bool := (xs.take k).any (fun y => y.key.toList == key.toList)
theorem seenB_dup {xs : List Lab} {k : Nat} (hk : k < xs.length) : dupAt keyE xs k = seenB xs k (xs[k]'hk).key := by
  unfold dupAt
  rw [List.getElem?_eq_getElem hk]
  rfl
theorem seenB_succ {xs : List Lab} {k : Nat} (hk : k < xs.length) (key : ByteArray) : seenB xs (k + 1) key = (seenB xs k key || ((xs[k]'hk).key.toList == key.toList)) := by
  unfold seenB
  rw [List.take_succ_eq_append_getElem hk, List.any_append]
  simp
theorem labErr_dist {xs : List Lab} (h : ∀ j, j < xs.length → labErr xs j = 0) : Dist ltL xs := keyE_dist (fun i hi => by
  have h := h i hi
  rw [labErr_at hi] at h
  cases hq : dupAt keyE xs i with
  | false => rfl
  | true =>
    rw [hq] at h
    by_cases h1 : keyB (xs[i]'hi).key = false
    · rw [if_pos h1] at h; cases h
    · rw [if_neg h1] at h
      by_cases h2 : valueB (xs[i]'hi).val = false
      · rw [if_pos h2] at h; cases h
      · rw [if_neg h2] at h; cases h)
set_option maxRecDepth 100000 in
set_option maxHeartbeats 8000000 in
theorem lmake_k (R : Ending → World → Prop) (w : World) (ok : Nat → Prop) (v : Value) (xs : List Lab) (hG : GOk w) (hok : ∀ k, ok k → k < w.heap.size) (hx : SlK labK 2 w ok v xs) (hs : ∀ s ∈ xs, s.key.size ≤ 1048576 ∧ s.val.size ≤ 1048576) (hl : xs.length ≤ 1073741824)
    (hR : ∀ v' w', Below w.heap.size w w' → SlR labK 2 w' (fun k => w.heap.size ≤ k) v' (labMake xs).1 → R (.returned (.tuple #[v', .string (labMake xs).2.1, .int .i64 (labMake xs).2.2])) w') :
    Calls Tryz.prog 50 #[v] w R := by
  obtain ⟨A, c, rfl, hlc, _⟩ := hx.form
  have HR := Lib.hid hR
  have HS := Lib.hid hs
  have HX := Lib.hid hx
  have HOK := Lib.hid hok
  have HG := Lib.hid hG
  clear hR hs hx hok hG
  by_cases h32 : 32 < xs.length
  · have e1 : labMake xs = ([], ⟨#[]⟩, 34) := by unfold labMake; rw [if_pos h32]
    have hv := HR.out (.slice none 0 0) w (Below.refl _ _) (by rw [e1]; exact SlR.nil)
    rw [e1] at hv
    have hcast : (32 : Int) < (xs.length : Int) := by omega
    clear e1
    go_enter Tryz.func50, Tryz.ntmps50
    go_wp2_with fail
    exact hv
  · have hcast : ¬ (32 : Int) < (xs.length : Int) := by omega
    have hln : xs.length ≤ 32 := by omega
    have hmm := @run_makeMap Tryz.prog
    obtain ⟨w1, hw1⟩ : ∃ w1, w1 = w.alloc (.map #[] 0) := ⟨_, rfl⟩
    have HB1 := Lib.hid (show Below w.heap.size w w1 by rw [hw1]; exact Below.alloc (Below.refl _ _) (Nat.le_refl _) _)
    have HM1 := Lib.hid (show MapAt Value.string w1 w.heap.size [] by rw [hw1]; exact MapAt.made _ _)
    have hws : w.heap.size < w1.heap.size := by rw [hw1]; simp
    go_enter Tryz.func50, Tryz.ntmps50
    go_upto_region 4 with fail
    rw [← hw1]
    clear hw1 hmm
    go_wp2_with fail
    go_loopw [16] (fun i wr => ∃ k : Nat, k ≤ xs.length ∧ i = .int .i64 k ∧ Below w.heap.size w wr ∧ w1.heap.size ≤ wr.heap.size ∧ (∀ j, j < k → labErr xs j = 0) ∧ ∃ m, MapAt Value.string wr w.heap.size m ∧ ∀ key, aget m key = if seenB xs k key = true then some (.agg #[]) else none) (fun i _ => xs.length - (intOf i).toNat)
    case atStart => exact ⟨0, Nat.zero_le _, rfl, HB1.out, Nat.le_refl _, fun _ h => absurd h (Nat.not_lt_zero _), [], HM1.out, fun key => rfl⟩
    case round =>
      obtain ⟨k, hk, rfl, hB, hsz, hz, m, hm, hseen⟩ := hrel
      have HB := Lib.hid hB
      have HZ := Lib.hid hz
      have HM := Lib.hid hm
      have HSN := Lib.hid hseen
      clear hB hz hm hseen
      by_cases hlt : k < xs.length
      · obtain ⟨b, off, c2, he, _, _, bk, bl, hce⟩ := (HX.out.below labOk HB.out HOK.out).addr (by omega)
        simp only [Value.slice.injEq] at he
        obtain ⟨he, -, hec⟩ := he
        cases he
        cases hec
        obtain ⟨y0, y1⟩ := lab_cells hce k hlt
        obtain ⟨s, hs⟩ : ∃ s, xs[k]'hlt = s := ⟨_, rfl⟩
        rw [hs] at y0 y1
        have HEs := Lib.hid hs
        clear hce hs
        have fit := HS.out s (by rw [← HEs.out]; exact List.getElem_mem hlt)
        obtain ⟨w3, hw3⟩ : ∃ w3, w3 = wr.alloc (.cells #[.string s.key, .string s.val] 118) := ⟨_, rfl⟩
        have HB3 := Lib.hid (show Below w.heap.size w w3 by rw [hw3]; exact Below.alloc HB.out HB.out.size _)
        have HM3 := Lib.hid (show MapAt Value.string w3 w.heap.size m by rw [hw3]; exact HM.out.move (Below.heap_alloc _ _ _ HM.out.lt))
        have HX3 := Lib.hid (show w3.heap[wr.heap.size]? = some (.cells #[.string s.key, .string s.val] 118) by rw [hw3]; exact heap_alloc_new _ _)
        have hs3 : wr.heap.size < w3.heap.size := by rw [hw3]; simp
        have HE := Lib.hid (labErr_at hlt)
        rw [HEs.out] at HE
        go_upto_region 7 with fail
        rw [← hw3]
        clear hw3 y0 y1
        have y0 : w3.cell? ⟨wr.heap.size, 0, none⟩ = some (.string s.key) := cell_at HX3.out rfl
        go_wp2_with fail
        refine key_k _ _ s.key (GOk.mod HG.out (Mod.of_below HB3.out) (fun h => h)) fit.1 ?_
        intro w4 g4
        have HB4 := Lib.hid (HB3.out.trans (g4.mono HB3.out.size))
        have HM4 := Lib.hid (HM3.out.move (g4.block _ HM3.out.lt))
        have hb4 : w4.heap[wr.heap.size]? = some (.cells #[.string s.key, .string s.val] 118) := (g4.block _ hs3).trans HX3.out
        have hs4 : w3.heap.size ≤ w4.heap.size := g4.size
        clear g4 y0
        have y0 : w4.cell? ⟨wr.heap.size, 0, none⟩ = some (.string s.key) := cell_at hb4 rfl
        have y1 : w4.cell? ⟨wr.heap.size, 1, none⟩ = some (.string s.val) := cell_at hb4 rfl
        have HB44 := Lib.hid hb4
        clear hb4
        cases ek : keyB s.key with
        | false =>
          have e0 : labErr xs k = 31 := by rw [HE.out, ek]; rfl
          have e1 := labMake_bad (by omega) hlt HZ.out (by rw [e0]; decide)
          have hv := fun n => HR.out (.slice none 0 0) (w4.drewN n) (below_drewN HB4.out n) (by rw [e1]; exact SlR.nil)
          rw [e1, e0, HEs.out] at hv
          clear e1 e0 ek
          go_wp2_with fail
          go_quiet (fail)
          go_wp2_with fail
          exact hv _
        | true =>
          go_wp2_with fail
          refine value_k _ _ s.val fit.2 ?_
          cases ev : valueB s.val with
          | false =>
            have e0 : labErr xs k = 32 := by rw [HE.out, ek, ev]; rfl
            have e1 := labMake_bad (by omega) hlt HZ.out (by rw [e0]; decide)
            have hv := fun n => HR.out (.slice none 0 0) (w4.drewN n) (below_drewN HB4.out n) (by rw [e1]; exact SlR.nil)
            rw [e1, e0, HEs.out] at hv
            clear e1 e0 ek ev
            go_wp2_with fail
            go_quiet (fail)
            go_wp2_with fail
            exact hv _
          | true =>
            obtain ⟨d, hd⟩ : ∃ d, dupAt keyE xs k = d := ⟨_, rfl⟩
            have hsn : seenB xs k s.key = d := by rw [← hd, seenB_dup hlt, HEs.out]
            have hlk : (Instr.lookup 214 (.map (some w.heap.size)) (.string s.key) true).run Tryz.prog w4 = .ok (.tuple #[.agg #[], .bool d]) w4 := by
              have h := HM4.out.lookup (t := 214) strK Tryz.underlying214 (z := .agg #[]) (by kernel_rfl) s.key true
              rw [h, HSN.out, hsn]
              cases d <;> rfl
            obtain ⟨w5, hw5⟩ : ∃ w5, w5 = w4.alloc (.cells #[] 215) := ⟨_, rfl⟩
            have HB5 := Lib.hid (show Below w.heap.size w w5 by rw [hw5]; exact Below.alloc HB4.out HB4.out.size _)
            have HM5 := Lib.hid (show MapAt Value.string w5 w.heap.size m by rw [hw5]; exact HM4.out.move (Below.heap_alloc _ _ _ HM4.out.lt))
            have y05 : w5.cell? ⟨wr.heap.size, 0, none⟩ = some (.string s.key) := by rw [hw5]; exact cell_at ((Below.heap_alloc _ _ _ (Array.getElem?_eq_some_iff.1 HB44.out).1).trans HB44.out) rfl
            have hs5 : w4.heap.size ≤ w5.heap.size := by rw [hw5]; simp
            have HD := Lib.hid hd
            clear hd hsn
            go_upto_region 12 with fail
            rw [← hw5]
            clear hw5 hlk y0 y1
            cases d with
            | true =>
              have e0 : labErr xs k = 33 := by rw [HE.out, ek, ev, HD.out]; rfl
              have e1 := labMake_bad (by omega) hlt HZ.out (by rw [e0]; decide)
              have hv := fun n => HR.out (.slice none 0 0) (w5.drewN n) (below_drewN HB5.out n) (by rw [e1]; exact SlR.nil)
              rw [e1, e0, HEs.out] at hv
              clear e1 e0 ek ev
              go_wp2_with fail
              go_quiet (fail)
              go_wp2_with fail
              exact hv _
            | false =>
              have e0 : labErr xs k = 0 := by rw [HE.out, ek, ev, HD.out]; rfl
              have HE0 := Lib.hid e0
              clear e0 ek ev
              obtain ⟨o, hu, hM6⟩ := HM5.out.update strK Tryz.underlying214 s.key (.agg #[])
              have HM6 := Lib.hid hM6
              clear hM6
              go_wp2_with fail
              go_roundw
              case rel => exact ⟨k + 1, by omega, by go_num, ⟨HB5.out.os, HB5.out.tape, HB5.out.output, by rw [putObj_size]; exact HB5.out.size, fun j hj => (putObj_other (by omega) _).trans (HB5.out.block j hj)⟩, by rw [putObj_size]; omega, fun j hj => by
                by_cases hjk2 : j < k
                · exact HZ.out j hjk2
                · obtain rfl : j = k := by omega
                  exact HE0.out, _, HM6.out, fun key => by
                rw [aget_aset, HSN.out, seenB_succ hlt, HEs.out]
                by_cases hq : s.key = key
                · rw [if_pos hq, hq]; simp
                · rw [if_neg hq]
                  have : (s.key.toList == key.toList) = false := by rw [beq_eq_false_iff_ne]; exact fun h => hq (ba_toList_inj.1 h)
                  rw [this, Bool.or_false]⟩
              case measure => simp [intOf]; omega
      · obtain rfl : k = xs.length := by omega
        have e1 := labMake_ok (by omega) HZ.out
        have HE1 := Lib.hid e1
        have hd : Dist ltL xs := labErr_dist HZ.out
        clear e1 hlt hk
        go_wp2_with fail
        refine sorted_k _ _ ok _ xs (fun k h => Nat.lt_of_lt_of_le (HOK.out k h) HB.out.size) (HX.out.below labOk HB.out HOK.out) (by omega) hd ?_
        intro v3 w3 g3 hO3
        have hv := HR.out v3 w3 (HB.out.trans (g3.mono HB.out.size)) (by rw [HE1.out]; exact hO3.mono labOk (fun j hj => Nat.le_trans HB.out.size hj))
        rw [HE1.out] at hv
        clear g3 hO3 hd
        go_wp2_with fail
        exact hv
end Go.Proofs.YtdceflgemhcgcaaGreatDoor
