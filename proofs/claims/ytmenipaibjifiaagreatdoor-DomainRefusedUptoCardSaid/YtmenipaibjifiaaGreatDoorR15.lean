/-
join and quit keep what is counted. Plain Lean; no program.
The five changes keep the invariant. Plain Lean; no program.
A pod comes or goes: the invariant is kept. Plain Lean; no program.
join's steps: what they keep, how great numbers grow. Plain Lean.
-/
import Derived.Test.YtmenipaibjifiaaGreatDoorR14
set_option linter.unusedVariables false
set_option linter.unusedSimpArgs false
namespace Go.Proofs.YtmenipaibjifiaaGreatDoor
open Go.RowKit

theorem AInv.congr {M M' : Nat → List Lab} {V V' : Spot → Nat → Bool} {S : St} (A : AInv M V S) (hM : ∀ s, s < 512 → ∀ b, hasL (M' s) b = hasL (M s) b) (hV : ∀ b p, p < 2048 → V' b p = V b p) : AInv M' V' S := by
  refine ⟨fun b hb => ?_, fun b x y hb => ?_, fun k hk v s hs => ?_, fun k g hk => ?_, fun t => ?_⟩
  · obtain ⟨h1, h2⟩ := A.no b hb
    exact ⟨fun s hs => by rw [hM s hs]; exact h1 s hs, fun p hp => by rw [hV b p hp]; exact h2 p hp⟩
  · obtain ⟨⟨s0, hs0, h1⟩, h2, h3, h4, h5⟩ := A.yes b x y hb
    exact ⟨⟨s0, hs0, by rw [hM s0 hs0]; exact h1⟩, h2, h3, fun s hs => by rw [hM s hs]; exact h4 s hs, fun p hp => by rw [hV b p hp]; exact h5 p hp⟩
  · rw [hM s hs]; exact A.vno k hk v s hs
  · obtain ⟨⟨v0, s0, hs0, h1⟩, h2⟩ := A.vyes k g hk
    refine ⟨⟨v0, s0, hs0, by rw [hM s0 hs0]; exact h1⟩, fun v => ?_⟩
    rw [h2 v, cnt_congr (fun s hs => (hM s hs _).symm)]
  · rw [A.cts t]
    exact congrArg optNum (cnt_congr fun p hp => by rw [hV _ p hp])
theorem foldCount_fields (at_ : Spot) (n : Int) : ∀ (ls : List Lab) (S : St), (ls.foldl (fun S l => countS S (tagOf at_ l) n) S).guests = S.guests ∧ (ls.foldl (fun S l => countS S (tagOf at_ l) n) S).nodes = S.nodes ∧ (ls.foldl (fun S l => countS S (tagOf at_ l) n) S).on = S.on ∧
    (ls.foldl (fun S l => countS S (tagOf at_ l) n) S).values = S.values ∧ (ls.foldl (fun S l => countS S (tagOf at_ l) n) S).areas = S.areas
  | [], S => ⟨rfl, rfl, rfl, rfl, rfl⟩
  | l :: r, S => by
    rw [List.foldl_cons]
    exact foldCount_fields at_ n r (countS S (tagOf at_ l) n)
theorem enterS_fields (S : St) (at_ : Spot) (p n : Int) : (enterS S at_ p n).guests = S.guests ∧ (enterS S at_ p n).nodes = S.nodes ∧ (enterS S at_ p n).on = S.on ∧ (enterS S at_ p n).values = S.values ∧ ∀ b, ((enterS S at_ p n).areas b).isSome = (S.areas b).isSome := by
  obtain ⟨h1, h2, h3, h4, h5⟩ := foldCount_fields at_ n (guestL S p) (podSet S at_ p n)
  have hp : (podSet S at_ p n).guests = S.guests ∧ (podSet S at_ p n).nodes = S.nodes ∧ (podSet S at_ p n).on = S.on ∧ (podSet S at_ p n).values = S.values ∧ ∀ b, ((podSet S at_ p n).areas b).isSome = (S.areas b).isSome := by
    unfold podSet
    split
    · next x y h =>
      refine ⟨rfl, rfl, rfl, rfl, fun b => ?_⟩
      by_cases e : b = at_
      · subst e; simp [upd_same, h]
      · simp [upd_ne _ _ e]
    · exact ⟨rfl, rfl, rfl, rfl, fun _ => rfl⟩
  exact ⟨h1.trans hp.1, h2.trans hp.2.1, h3.trans hp.2.2.1, h4.trans hp.2.2.2.1, fun b => by unfold enterS; rw [h5]; exact hp.2.2.2.2 b⟩
theorem enterAll_fields (at_ : Spot) (n : Int) : ∀ (ps : List Nat) (S : St), (enterAll S at_ ps n).guests = S.guests ∧ (enterAll S at_ ps n).nodes = S.nodes ∧ (enterAll S at_ ps n).on = S.on ∧ (enterAll S at_ ps n).values = S.values ∧ ∀ b, ((enterAll S at_ ps n).areas b).isSome = (S.areas b).isSome
  | [], S => ⟨rfl, rfl, rfl, rfl, fun _ => rfl⟩
  | p :: r, S => by
    obtain ⟨h1, h2, h3, h4, h5⟩ := enterS_fields S at_ p n
    obtain ⟨g1, g2, g3, g4, g5⟩ := enterAll_fields at_ n r (enterS S at_ p n)
    exact ⟨g1.trans h1, g2.trans h2, g3.trans h3, g4.trans h4, fun b => (g5 b).trans (h5 b)⟩
theorem guestL_congr {S T : St} (h : T.guests = S.guests) (p : Int) : guestL T p = guestL S p := by unfold guestL; rw [h]
theorem AInv.plusAll {M : Nat → List Lab} {at_ : Spot} : ∀ (ps : List Nat) {V : Spot → Nat → Bool} {S : St}, AInv M V S → ps.Nodup → (∀ p ∈ ps, p < 2048 ∧ (guestL S p).Nodup ∧ V at_ p = false) → (S.areas at_).isSome = true →
    AInv M (fun b p => V b p || (decide (b = at_) && decide (p ∈ ps))) (enterAll S at_ ps 1)
  | [], V, S, A, _, _, _ => A.congr (fun _ _ _ => rfl) (fun b p _ => by simp)
  | p :: r, V, S, A, hn, hp, ha => by
    rw [List.nodup_cons] at hn
    obtain ⟨q1, q2, q3⟩ := hp p (by simp)
    obtain ⟨f1, _, _, _, f5⟩ := enterS_fields S at_ p 1
    have A1 := A.plus q1 q2 q3 ha
    have A2 := AInv.plusAll r A1 hn.2 (fun q hq => by
      obtain ⟨a1, a2, a3⟩ := hp q (by simp [hq])
      refine ⟨a1, by rw [guestL_congr f1]; exact a2, ?_⟩
      rw [upd_same, upd_ne (V at_) _ (show q ≠ p from fun e => hn.1 (by rw [← e]; exact hq))]; exact a3) (by rw [f5]; exact ha)
    refine A2.congr (fun _ _ _ => rfl) (fun b q _ => ?_)
    by_cases e : b = at_
    · subst e
      rw [upd_same]
      by_cases e2 : q = p
      · subst e2; simp [upd_same]
      · simp [upd_ne _ _ e2, e2]
    · simp [upd_ne _ _ e, e]
theorem AInv.minusAll {M : Nat → List Lab} {at_ : Spot} : ∀ (ps : List Nat) {V : Spot → Nat → Bool} {S : St}, AInv M V S → ps.Nodup → (∀ p ∈ ps, p < 2048 ∧ (guestL S p).Nodup ∧ V at_ p = true) → (S.areas at_).isSome = true →
    AInv M (fun b p => V b p && !(decide (b = at_) && decide (p ∈ ps))) (enterAll S at_ ps (-1))
  | [], V, S, A, _, _, _ => A.congr (fun _ _ _ => rfl) (fun b p _ => by simp)
  | p :: r, V, S, A, hn, hp, ha => by
    rw [List.nodup_cons] at hn
    obtain ⟨q1, q2, q3⟩ := hp p (by simp)
    obtain ⟨f1, _, _, _, f5⟩ := enterS_fields S at_ p (-1)
    have A1 := A.minus q1 q2 q3 ha
    have A2 := AInv.minusAll r A1 hn.2 (fun q hq => by
      obtain ⟨a1, a2, a3⟩ := hp q (by simp [hq])
      refine ⟨a1, by rw [guestL_congr f1]; exact a2, ?_⟩
      rw [upd_same, upd_ne (V at_) _ (show q ≠ p from fun e => hn.1 (by rw [← e]; exact hq))]; exact a3) (by rw [f5]; exact ha)
    refine A2.congr (fun _ _ _ => rfl) (fun b q _ => ?_)
    by_cases e : b = at_
    · subst e
      rw [upd_same]
      by_cases e2 : q = p
      · subst e2; simp [upd_same]
      · simp [upd_ne _ _ e2, e2]
    · simp [upd_ne _ _ e, e]
theorem plus_fields (S : St) (l : Lab) (slot : Int) : (nodeSet (bumpV (mkArea S l) l 1) l slot true).guests = S.guests ∧ (nodeSet (bumpV (mkArea S l) l 1) l slot true).nodes = S.nodes ∧ (nodeSet (bumpV (mkArea S l) l 1) l slot true).on = S.on ∧
    ((nodeSet (bumpV (mkArea S l) l 1) l slot true).areas (spotOf l)).isSome = true := by
  rw [plus_eq]
  exact ⟨rfl, rfl, rfl, by simp [upd_same]⟩
theorem joinOne_fields (slot : Int) (ps : List Nat) (S : St) (l : Lab) : (joinOne slot ps S l).guests = S.guests ∧ (joinOne slot ps S l).nodes = S.nodes ∧ (joinOne slot ps S l).on = S.on := by
  obtain ⟨h1, h2, h3, _⟩ := plus_fields S l slot
  obtain ⟨g1, g2, g3, _⟩ := enterAll_fields (spotOf l) 1 ps (nodeSet (bumpV (mkArea S l) l 1) l slot true)
  exact ⟨g1.trans h1, g2.trans h2, g3.trans h3⟩
theorem joinFold_fields (slot : Int) (ps : List Nat) : ∀ (ls : List Lab) (S : St), (ls.foldl (joinOne slot ps) S).guests = S.guests ∧ (ls.foldl (joinOne slot ps) S).nodes = S.nodes ∧ (ls.foldl (joinOne slot ps) S).on = S.on
  | [], S => ⟨rfl, rfl, rfl⟩
  | l :: r, S => by
    obtain ⟨h1, h2, h3⟩ := joinOne_fields slot ps S l
    obtain ⟨g1, g2, g3⟩ := joinFold_fields slot ps r (joinOne slot ps S l)
    exact ⟨g1.trans h1, g2.trans h2, g3.trans h3⟩
theorem hasL_cons (l : Lab) (r : List Lab) (b : Spot) : hasL (l :: r) b = (decide (b = spotOf l) || hasL r b) := by
  unfold hasL spotOf
  rw [Bool.eq_iff_iff]
  simp only [List.mem_cons, decide_eq_true_eq, Bool.or_eq_true, decide_eq_true_eq]
  obtain ⟨b1, b2⟩ := b
  obtain ⟨l1, l2⟩ := l
  simp
theorem hasL_append (l r : List Lab) (b : Spot) : hasL (l ++ r) b = (hasL l b || hasL r b) := by
  unfold hasL
  rw [Bool.eq_iff_iff]
  simp
theorem joinFold {slot : Nat} (hs : slot < 512) {ps : List Nat} (hps : ps.Nodup) : ∀ (ls : List Lab) {M : Nat → List Lab} {V : Spot → Nat → Bool} {S : St}, AInv M V S → ls.Nodup → (∀ l ∈ ls, hasL (M slot) (spotOf l) = false) →
    (∀ p ∈ ps, p < 2048 ∧ (guestL S p).Nodup ∧ ∀ l ∈ ls, V (spotOf l) p = false) → AInv (upd M slot (M slot ++ ls)) (fun b p => V b p || (hasL ls b && decide (p ∈ ps))) (ls.foldl (joinOne slot ps) S)
  | [], M, V, S, A, _, _, _ => A.congr (fun s _ b => by
      by_cases e : s = slot
      · subst e; simp [upd_same]
      · rw [upd_ne _ _ e]) (fun b p _ => by simp [hasL])
  | l :: r, M, V, S, A, hn, h0, hp => by
    rw [List.nodup_cons] at hn
    have A1 := A.nodePlus (M' := upd M slot (M slot ++ [l])) hs (h0 l (by simp)) (fun s b => by
      by_cases e : s = slot
      · subst e; rw [upd_same, hasL_append, hasL_cons]; simp [hasL]
      · rw [upd_ne _ _ e]; simp [e])
    obtain ⟨f1, _, _, f4⟩ := plus_fields S l slot
    have A2 := AInv.plusAll (at_ := spotOf l) ps A1 hps (fun p h => by
      obtain ⟨a1, a2, a3⟩ := hp p h
      exact ⟨a1, by rw [guestL_congr f1]; exact a2, a3 l (by simp)⟩) f4
    obtain ⟨k1, _, _⟩ := joinOne_fields slot ps S l
    have A3 := joinFold hs hps r A2 hn.2 (fun q hq => by
      rw [upd_same, hasL_append, h0 q (by simp [hq]), hasL_cons]
      have : spotOf q ≠ spotOf l := fun e => hn.1 (by
        obtain ⟨q1, q2⟩ := q
        obtain ⟨l1, l2⟩ := l
        simp only [spotOf, Prod.mk.injEq] at e
        obtain ⟨rfl, rfl⟩ := e
        exact hq)
      simp [this, hasL]) (fun p h => by
      obtain ⟨a1, a2, a3⟩ := hp p h
      have ek := guestL_congr k1 (p : Int)
      refine ⟨a1, by unfold joinOne at ek; rw [ek]; exact a2, fun q hq => ?_⟩
      have : spotOf q ≠ spotOf l := fun e => hn.1 (by
        obtain ⟨q1, q2⟩ := q
        obtain ⟨l1, l2⟩ := l
        simp only [spotOf, Prod.mk.injEq] at e
        obtain ⟨rfl, rfl⟩ := e
        exact hq)
      simp [this, a3 q (by simp [hq])])
    refine A3.congr (fun s _ b => ?_) (fun b p _ => ?_)
    · by_cases e : s = slot
      · subst e; simp [upd_same]
      · simp [upd_ne _ _ e]
    · rw [hasL_cons]
      by_cases e : b = spotOf l <;> by_cases e2 : p ∈ ps <;> simp [e, e2]
theorem dropVK_fields (S : St) (l : Lab) (k : ByteArray) : (dropK (dropV S l) k).guests = S.guests ∧ (dropK (dropV S l) k).nodes = S.nodes ∧ (dropK (dropV S l) k).on = S.on := by
  have h1 : (dropV S l).guests = S.guests ∧ (dropV S l).nodes = S.nodes ∧ (dropV S l).on = S.on := by
    unfold dropV
    dsimp only
    split <;> exact ⟨rfl, rfl, rfl⟩
  unfold dropK
  split
  · exact h1
  · exact h1
theorem nodeSet_fields (S : St) (l : Lab) (slot : Int) (b : Bool) : (nodeSet S l slot b).guests = S.guests ∧ (nodeSet S l slot b).nodes = S.nodes ∧ (nodeSet S l slot b).on = S.on := by
  unfold nodeSet
  split <;> exact ⟨rfl, rfl, rfl⟩
theorem quitOne_fields (slot : Int) (ps : List Nat) (S : St) (l : Lab) : (quitOne slot ps S l).guests = S.guests ∧ (quitOne slot ps S l).nodes = S.nodes ∧ (quitOne slot ps S l).on = S.on := by
  obtain ⟨g1, g2, g3, _⟩ := enterAll_fields (spotOf l) (-1) ps S
  obtain ⟨h1, h2, h3⟩ := nodeSet_fields (enterAll S (spotOf l) ps (-1)) l slot false
  obtain ⟨k1, k2, k3⟩ := dropVK_fields (nodeSet (enterAll S (spotOf l) ps (-1)) l slot false) l l.key
  exact ⟨k1.trans (h1.trans g1), k2.trans (h2.trans g2), k3.trans (h3.trans g3)⟩
theorem quitFold_fields (slot : Int) (ps : List Nat) : ∀ (ls : List Lab) (S : St), (ls.foldl (quitOne slot ps) S).guests = S.guests ∧ (ls.foldl (quitOne slot ps) S).nodes = S.nodes ∧ (ls.foldl (quitOne slot ps) S).on = S.on
  | [], S => ⟨rfl, rfl, rfl⟩
  | l :: r, S => by
    obtain ⟨h1, h2, h3⟩ := quitOne_fields slot ps S l
    obtain ⟨g1, g2, g3⟩ := quitFold_fields slot ps r (quitOne slot ps S l)
    exact ⟨g1.trans h1, g2.trans h2, g3.trans h3⟩
/-- nd: each pod's node. -/
theorem quitFold {slot : Nat} (hs : slot < 512) {ps : List Nat} (hps : ps.Nodup) : ∀ (ls : List Lab) {M : Nat → List Lab} {V : Spot → Nat → Bool} {S : St}, AInv M V S → ls.Nodup → M slot = ls →
    (∀ p ∈ ps, p < 2048 ∧ (guestL S p).Nodup ∧ ∀ l ∈ ls, V (spotOf l) p = true) → (∀ b p, p < 2048 → p ∉ ps → V b p = true → ∃ s, s < 512 ∧ s ≠ slot ∧ hasL (M s) b = true) →
    AInv (upd M slot []) (fun b p => V b p && !(hasL ls b && decide (p ∈ ps))) (ls.foldl (quitOne slot ps) S)
  | [], M, V, S, A, _, h0, _, _ => A.congr (fun s _ b => by
      by_cases e : s = slot
      · subst e; rw [upd_same, h0]
      · rw [upd_ne _ _ e]) (fun b p _ => by simp [hasL])
  | l :: r, M, V, S, A, hn, h0, hp, hv => by
    rw [List.nodup_cons] at hn
    have hin : hasL (M slot) (spotOf l) = true := by rw [h0, hasL_cons]; simp
    have hsome : (S.areas (spotOf l)).isSome = true := by
      cases h : S.areas (spotOf l) with
      | some q => rfl
      | none => rw [(A.no _ h).1 slot hs] at hin; cases hin
    have hsp : ∀ q ∈ r, spotOf q ≠ spotOf l := fun q hq e => hn.1 (by
      obtain ⟨q1, q2⟩ := q
      obtain ⟨l1, l2⟩ := l
      simp only [spotOf, Prod.mk.injEq] at e
      obtain ⟨rfl, rfl⟩ := e
      exact hq)
    have hrl : hasL r (spotOf l) = false := by
      rw [hasL_spot]
      simpa using hn.1
    have A1 := AInv.minusAll (at_ := spotOf l) ps A hps (fun p h => by
      obtain ⟨a1, a2, a3⟩ := hp p h
      exact ⟨a1, a2, a3 l (by simp)⟩) hsome
    have A2 := A1.nodeMinus (M' := upd M slot r) hs hin (fun s b => by
      by_cases e : s = slot
      · subst e
        rw [upd_same, h0, hasL_cons]
        by_cases e2 : b = spotOf l
        · subst e2; simp [hrl]
        · simp [e2]
      · rw [upd_ne _ _ e]; simp [e]) (fun hz p hp2 => by
      cases hvp : V (spotOf l) p with
      | false => rfl
      | true =>
        by_cases e : p ∈ ps
        · simp [e]
        · obtain ⟨s, hs2, hne, hh⟩ := hv _ p hp2 e hvp
          have := hz s hs2
          rw [upd_ne _ _ hne, hh] at this
          cases this)
    obtain ⟨k1, _, _⟩ := quitOne_fields slot ps S l
    have A3 := quitFold hs hps r A2 hn.2 (by rw [upd_same]) (fun p h => by
      obtain ⟨a1, a2, a3⟩ := hp p h
      have ek := guestL_congr k1 (p : Int)
      refine ⟨a1, by unfold quitOne at ek; rw [ek]; exact a2, fun q hq => ?_⟩
      simp [hsp q hq, a3 q (by simp [hq])]) (fun b p hp2 hnp hvp => by
      simp only [hnp, decide_false, Bool.and_false, Bool.not_false, Bool.and_true] at hvp
      obtain ⟨s, hs2, hne, hh⟩ := hv b p hp2 hnp hvp
      exact ⟨s, hs2, hne, by rw [upd_ne _ _ hne]; exact hh⟩)
    refine A3.congr (fun s _ b => by rw [upd_upd]) (fun b p _ => ?_)
    rw [hasL_cons]
    by_cases e : b = spotOf l <;> by_cases e2 : p ∈ ps <;> simp [e, e2]
end Go.Proofs.YtmenipaibjifiaaGreatDoor

namespace Go.Proofs.YtmenipaibjifiaaGreatDoor
open Go.RowKit

def nodeL (S : St) (s : Int) : List Lab := (S.nodes s).getD []
def podNode (S : St) (p : Int) : Option Int := (S.guests p).map (·.2)
def VV (S : St) (b : Spot) (p : Nat) : Bool := match podNode S p with
  | some n => hasL (nodeL S n) b
  | none => false
def KeysNodup (l : List Lab) : Prop := (l.map Lab.key).Nodup
structure Inv (S : St) : Prop where
  nb : ∀ s l, S.nodes s = some l → 0 ≤ s ∧ s < 512 ∧ KeysNodup l
  gb : ∀ p l n, S.guests p = some (l, n) → 0 ≤ p ∧ p < 2048 ∧ KeysNodup l ∧ (S.nodes n).isSome = true
  ons : ∀ s, (S.on s).isSome = (S.nodes s).isSome
  onw : ∀ s ws, S.on s = some ws → ws.length = 32 ∧ ∀ p : Nat, p < 2048 → memW ws p = decide (podNode S p = some s)
  a : AInv (fun s => nodeL S s) (VV S) S
theorem KeysNodup.labs : ∀ {l : List Lab}, KeysNodup l → l.Nodup
  | [], _ => List.nodup_nil
  | l :: r, h => by
    unfold KeysNodup at h
    rw [List.map_cons, List.nodup_cons] at h
    exact List.nodup_cons.2 ⟨fun hm => h.1 (List.mem_map_of_mem hm), KeysNodup.labs h.2⟩
theorem KeysNodup.nil : KeysNodup [] := List.nodup_nil
theorem Inv.node {S : St} (I : Inv S) (s : Int) : KeysNodup (nodeL S s) := by
  unfold nodeL
  cases h : S.nodes s with
  | none => exact .nil
  | some l => exact (I.nb s l h).2.2
theorem Inv.guest {S : St} (I : Inv S) (p : Int) : KeysNodup (guestL S p) := by
  unfold guestL
  split
  · next l n h => exact (I.gb p l n h).2.2.1
  · exact .nil
theorem Inv.empty : Inv St.empty := by
  refine ⟨fun _ _ h => by simp [St.empty] at h, fun _ _ _ h => by simp [St.empty] at h, fun _ => rfl, fun _ _ h => by simp [St.empty] at h, ?_⟩
  have h1 : ∀ s b, hasL (nodeL St.empty s) b = false := fun s b => by simp [nodeL, St.empty, hasL]
  have h2 : ∀ b p, VV St.empty b p = false := fun b p => by simp [VV, podNode, St.empty]
  refine ⟨fun b _ => ⟨fun s _ => h1 _ _, fun p _ => h2 b p⟩, fun _ _ _ h => by simp [St.empty] at h, fun _ _ v s _ => h1 _ _, fun _ _ h => by simp [St.empty] at h, fun t => ?_⟩
  rw [cnt_zero.2 (fun p _ => by rw [h2]; rfl)]
  rfl
/-- The places of a node's pods. -/
theorem Inv.onL_mem {S : St} (I : Inv S) (s : Int) (p : Nat) : p ∈ onL S s ↔ p < 2048 ∧ podNode S p = some s := by
  unfold onL
  split
  · next ws h =>
    unfold mems
    rw [List.mem_filter, List.mem_range]
    refine and_congr_right fun hp => ?_
    rw [(I.onw s ws h).2 p hp]
    simp
  · next h =>
    simp only [List.not_mem_nil, false_iff, not_and]
    intro _ e
    unfold podNode at e
    obtain ⟨⟨l, n⟩, hg, rfl⟩ := Option.map_eq_some_iff.1 e
    have h1 := (I.gb _ _ _ hg).2.2.2
    rw [← I.ons, h] at h1
    cases h1
theorem onL_nodup (S : St) (s : Int) : (onL S s).Nodup := by
  unfold onL
  split
  · exact List.nodup_range.filter _
  · exact List.nodup_nil
theorem VV_node {S : St} {p : Nat} {n : Int} (h : podNode S p = some n) (b : Spot) : VV S b p = hasL (nodeL S n) b := by unfold VV; rw [h]
/-- Only what AInv reads. -/
theorem AInv.of_fields {M : Nat → List Lab} {V : Spot → Nat → Bool} {S T : St} (A : AInv M V S) (h1 : T.areas = S.areas) (h2 : T.values = S.values) (h3 : T.counts = S.counts) (h4 : ∀ q, guestL T q = guestL S q) : AInv M V T :=
  ⟨by rw [h1]; exact A.no, by rw [h1]; exact A.yes, by rw [h2]; exact A.vno, by rw [h2]; exact A.vyes, fun t => by rw [h3]; simp only [h4]; exact A.cts t⟩

def addNode (S : St) (s : Int) (l : List Lab) : St := joinS { S with on := upd S.on s (some (List.replicate 32 0)) } s l
theorem mems_zero (n k : Nat) : mems n (List.replicate k 0) = [] := by
  unfold mems
  rw [List.filter_eq_nil_iff]
  intro i _
  rw [memW_zero]
  simp
theorem joinS_fields (S : St) (s : Int) (l : List Lab) : (joinS S s l).guests = S.guests ∧ (joinS S s l).nodes = upd S.nodes s (some l) ∧ (joinS S s l).on = S.on := by
  obtain ⟨h1, h2, h3⟩ := joinFold_fields s (onL S s) l S
  exact ⟨h1, by unfold joinS; simp only [h2], h3⟩
theorem quitS_fields (S : St) (s : Int) (l : List Lab) : (quitS S s l).guests = S.guests ∧ (quitS S s l).nodes = upd S.nodes s none ∧ (quitS S s l).on = S.on := by
  obtain ⟨h1, h2, h3⟩ := quitFold_fields s (onL S s) l S
  exact ⟨h1, by unfold quitS; simp only [h2], h3⟩
theorem Inv.addNode {S : St} (I : Inv S) {s : Int} {l : List Lab} (hs : 0 ≤ s ∧ s < 512) (h0 : S.nodes s = none) (hl : KeysNodup l) : Inv (addNode S s l) := by
  obtain ⟨k, rfl⟩ : ∃ k : Nat, s = k := ⟨s.toNat, by omega⟩
  have hk : k < 512 := by omega
  obtain ⟨f1, f2, f3⟩ := joinS_fields { S with on := upd S.on k (some (List.replicate 32 0)) } k l
  have hpn : ∀ p, podNode (Go.Proofs.YtmenipaibjifiaaGreatDoor.addNode S k l) p = podNode S p := fun p => by unfold podNode Go.Proofs.YtmenipaibjifiaaGreatDoor.addNode; rw [f1]
  have hne : ∀ p n, podNode S p = some n → n ≠ k := fun p n h e => by
    unfold podNode at h
    obtain ⟨⟨l2, n2⟩, hg, rfl⟩ := Option.map_eq_some_iff.1 h
    have := (I.gb _ _ _ hg).2.2.2
    rw [show (l2, n2).2 = n2 from rfl] at e
    rw [e, h0] at this
    cases this
  have hnl : ∀ n : Int, nodeL (Go.Proofs.YtmenipaibjifiaaGreatDoor.addNode S k l) n = if n = k then l else nodeL S n := fun n => by
    unfold nodeL Go.Proofs.YtmenipaibjifiaaGreatDoor.addNode
    rw [f2]
    by_cases e : n = k
    · subst e; simp [upd_same]
    · rw [upd_ne _ _ e, if_neg e]
  refine ⟨fun n m h => ?_, fun p m n h => ?_, fun n => ?_, fun n ws h => ?_, ?_⟩
  · unfold Go.Proofs.YtmenipaibjifiaaGreatDoor.addNode at h
    rw [f2] at h
    by_cases e : n = k
    · subst e; rw [upd_same] at h; cases h; exact ⟨hs.1, hs.2, hl⟩
    · rw [upd_ne _ _ e] at h; exact I.nb n m h
  · unfold Go.Proofs.YtmenipaibjifiaaGreatDoor.addNode at h ⊢
    rw [f1] at h
    obtain ⟨a1, a2, a3, a4⟩ := I.gb p m n h
    refine ⟨a1, a2, a3, ?_⟩
    rw [f2]
    by_cases e : n = k
    · subst e; simp [upd_same]
    · rw [upd_ne _ _ e]; exact a4
  · unfold Go.Proofs.YtmenipaibjifiaaGreatDoor.addNode
    rw [f2, f3]
    by_cases e : n = k
    · subst e; simp [upd_same]
    · simp only [upd_ne _ _ e]; exact I.ons n
  · unfold Go.Proofs.YtmenipaibjifiaaGreatDoor.addNode at h
    rw [f3] at h
    by_cases e : n = k
    · subst e
      simp only [upd_same, Option.some.injEq] at h
      subst h
      refine ⟨by simp, fun p hp => ?_⟩
      rw [memW_zero, hpn]
      symm
      rw [decide_eq_false_iff_not]
      exact fun h => hne p _ h rfl
    · simp only [upd_ne _ _ e] at h
      obtain ⟨a1, a2⟩ := I.onw n ws h
      exact ⟨a1, fun p hp => by rw [hpn]; exact a2 p hp⟩
  · have hol : onL { S with on := upd S.on (k : Int) (some (List.replicate 32 0)) } k = [] := by
      unfold onL
      simp only [upd_same]
      exact mems_zero _ _
    have A0 : AInv (fun s => nodeL S s) (VV S) { S with on := upd S.on (k : Int) (some (List.replicate 32 0)) } := I.a.of_fields rfl rfl rfl (fun _ => rfl)
    have hM0 : nodeL S k = [] := by unfold nodeL; rw [h0]; rfl
    have A1 := joinFold (slot := k) hk (ps := []) List.nodup_nil l A0 hl.labs (fun q _ => by simp only [hM0]; simp [hasL]) (fun p h => by simp at h)
    have A2 : AInv _ _ (Go.Proofs.YtmenipaibjifiaaGreatDoor.addNode S k l) := A1.of_fields (T := Go.Proofs.YtmenipaibjifiaaGreatDoor.addNode S k l) (by unfold Go.Proofs.YtmenipaibjifiaaGreatDoor.addNode joinS; rw [hol]) (by unfold Go.Proofs.YtmenipaibjifiaaGreatDoor.addNode joinS; rw [hol]) (by unfold Go.Proofs.YtmenipaibjifiaaGreatDoor.addNode joinS; rw [hol]) (fun q => by unfold Go.Proofs.YtmenipaibjifiaaGreatDoor.addNode joinS guestL; rw [hol])
    refine A2.congr (fun n _ b => ?_) (fun b p hp => ?_)
    · rw [hnl]
      by_cases e : n = k
      · subst e; simp only [upd_same, if_true]; rw [hM0]; rfl
      · rw [if_neg (by omega), upd_ne _ _ e]
    · unfold VV
      rw [hpn]
      cases h : podNode S p with
      | none => simp
      | some n =>
        simp only [List.not_mem_nil, decide_false, Bool.and_false, Bool.or_false]
        rw [hnl, if_neg (hne p n h)]
/-- Behind quit, the node's pods aside. -/
theorem Inv.quit {S : St} (I : Inv S) {k : Nat} (hk : k < 512) {l : List Lab} (h0 : S.nodes k = some l) :
    AInv (upd (fun s : Nat => nodeL S s) k []) (fun b p => VV S b p && !decide (podNode S p = some (k : Int))) (quitS S k l) := by
  have hl := (I.nb k l h0).2.2
  have hM0 : nodeL S k = l := by unfold nodeL; rw [h0]; rfl
  have A1 := quitFold (slot := k) hk (onL_nodup S k) l I.a hl.labs hM0 (fun p h => by
    obtain ⟨h1, h2⟩ := (I.onL_mem k p).1 h
    refine ⟨h1, (I.guest p).labs, fun q hq => ?_⟩
    rw [VV_node h2, hM0, hasL_spot]
    simpa using hq) (fun b p hp hnp hv => by
    have hv' := hv
    unfold VV at hv
    cases hpn : podNode S p with
    | none => rw [hpn] at hv; cases hv
    | some n =>
      rw [hpn] at hv
      have hne : n ≠ k := fun e => hnp ((I.onL_mem k p).2 ⟨hp, by rw [hpn, e]⟩)
      cases hn : S.nodes n with
      | none => simp [nodeL, hn, hasL] at hv
      | some m =>
        obtain ⟨b1, b2, _⟩ := I.nb n m hn
        refine ⟨n.toNat, by omega, by omega, ?_⟩
        rw [show ((n.toNat : Nat) : Int) = n by omega]
        exact hv)
  refine (A1.of_fields (T := quitS S k l) rfl rfl rfl (fun _ => rfl)).congr (fun _ _ _ => rfl) (fun b p hp => ?_)
  by_cases e : podNode S p = some (k : Int)
  · rw [VV_node e, hM0]
    have : p ∈ onL S k := (I.onL_mem k p).2 ⟨hp, e⟩
    simp [e, this]
  · have : p ∉ onL S k := fun h => e ((I.onL_mem k p).1 h).2
    simp [e, this]
noncomputable def delNode (S : St) (s : Int) : St := let T := quitS S s (nodeL S s); { T with on := upd T.on s none }
theorem Inv.delNode {S : St} (I : Inv S) {s : Int} (h0 : (S.nodes s).isSome = true) (hp0 : ∀ p : Nat, p < 2048 → podNode S p ≠ some s) : Inv (delNode S s) := by
  obtain ⟨l, h0⟩ := Option.isSome_iff_exists.1 h0
  obtain ⟨hs1, hs2, _⟩ := I.nb s l h0
  obtain ⟨k, rfl⟩ : ∃ k : Nat, s = k := ⟨s.toNat, by omega⟩
  have hM0 : nodeL S k = l := by unfold nodeL; rw [h0]; rfl
  obtain ⟨f1, f2, f3⟩ := quitS_fields S k l
  have e0 : Go.Proofs.YtmenipaibjifiaaGreatDoor.delNode S k = { quitS S k l with on := upd S.on k none } := by unfold Go.Proofs.YtmenipaibjifiaaGreatDoor.delNode; rw [hM0]; simp only [f3]
  rw [e0]
  have hpn : ∀ p, podNode ({ quitS S k l with on := upd S.on k none } : St) p = podNode S p := fun p => by unfold podNode; simp only [f1]
  have hne : ∀ p n, podNode S p = some n → n ≠ k := fun p n h e => by
    have h' := h
    unfold podNode at h
    obtain ⟨⟨l2, n2⟩, hg, rfl⟩ := Option.map_eq_some_iff.1 h
    obtain ⟨a1, a2, _⟩ := I.gb _ _ _ hg
    refine hp0 p.toNat (by omega) ?_
    rw [show ((p.toNat : Nat) : Int) = p by omega, h', e]
  have hnl : ∀ n : Int, nodeL ({ quitS S k l with on := upd S.on k none } : St) n = if n = k then [] else nodeL S n := fun n => by
    unfold nodeL
    simp only [f2]
    by_cases e : n = k
    · subst e; simp [upd_same]
    · rw [upd_ne _ _ e, if_neg e]
  refine ⟨fun n m h => ?_, fun p m n h => ?_, fun n => ?_, fun n ws h => ?_, ?_⟩
  · simp only [f2] at h
    by_cases e : n = k
    · subst e; rw [upd_same] at h; cases h
    · rw [upd_ne _ _ e] at h; exact I.nb n m h
  · simp only [f1] at h
    obtain ⟨a1, a2, a3, a4⟩ := I.gb p m n h
    refine ⟨a1, a2, a3, ?_⟩
    have : n ≠ k := hne p n (by unfold podNode; rw [h]; rfl)
    simp only [f2]
    rw [upd_ne _ _ this]; exact a4
  · simp only [f2]
    by_cases e : n = k
    · subst e; simp [upd_same]
    · simp only [upd_ne _ _ e]; exact I.ons n
  · by_cases e : n = k
    · subst e; simp [upd_same] at h
    · simp only [upd_ne _ _ e] at h
      obtain ⟨a1, a2⟩ := I.onw n ws h
      exact ⟨a1, fun p hp => by rw [hpn]; exact a2 p hp⟩
  · refine ((I.quit (by omega) h0).of_fields (T := { quitS S k l with on := upd S.on k none }) rfl rfl rfl (fun _ => rfl)).congr (fun n _ b => ?_) (fun b p hp => ?_)
    · rw [hnl]
      by_cases e : n = k
      · subst e; simp [upd_same]
      · rw [if_neg (by omega), upd_ne _ _ e]
    · have : decide (podNode S p = some (k : Int)) = false := decide_eq_false (hp0 p hp)
      rw [this]
      unfold VV
      rw [hpn]
      cases h : podNode S p with
      | none => rfl
      | some n => simp only [Bool.not_false, Bool.and_true]; rw [hnl, if_neg (hne p n h)]
noncomputable def setNode (S : St) (s : Int) (l : List Lab) : St := joinS (quitS S s (nodeL S s)) s l
theorem Inv.setNode {S : St} (I : Inv S) {s : Int} {l : List Lab} (h0 : (S.nodes s).isSome = true) (hl : KeysNodup l) : Inv (setNode S s l) := by
  obtain ⟨l0, h0⟩ := Option.isSome_iff_exists.1 h0
  obtain ⟨hs1, hs2, _⟩ := I.nb s l0 h0
  obtain ⟨k, rfl⟩ : ∃ k : Nat, s = k := ⟨s.toNat, by omega⟩
  have hM0 : nodeL S k = l0 := by unfold nodeL; rw [h0]; rfl
  obtain ⟨g1, g2, g3⟩ := quitS_fields S k l0
  have e0 : Go.Proofs.YtmenipaibjifiaaGreatDoor.setNode S k l = joinS (quitS S k l0) k l := by unfold Go.Proofs.YtmenipaibjifiaaGreatDoor.setNode; rw [hM0]
  rw [e0]
  obtain ⟨f1, f2, f3⟩ := joinS_fields (quitS S k l0) k l
  rw [g1] at f1
  rw [g2, upd_upd] at f2
  rw [g3] at f3
  have hpn : ∀ p, podNode (joinS (quitS S k l0) k l) p = podNode S p := fun p => by unfold podNode; rw [f1]
  have hnl : ∀ n : Int, nodeL (joinS (quitS S k l0) k l) n = if n = k then l else nodeL S n := fun n => by
    unfold nodeL
    rw [f2]
    by_cases e : n = k
    · subst e; simp [upd_same]
    · rw [upd_ne _ _ e, if_neg e]
  refine ⟨fun n m h => ?_, fun p m n h => ?_, fun n => ?_, fun n ws h => ?_, ?_⟩
  · rw [f2] at h
    by_cases e : n = k
    · subst e; rw [upd_same] at h; cases h; exact ⟨hs1, hs2, hl⟩
    · rw [upd_ne _ _ e] at h; exact I.nb n m h
  · rw [f1] at h
    obtain ⟨a1, a2, a3, a4⟩ := I.gb p m n h
    refine ⟨a1, a2, a3, ?_⟩
    rw [f2]
    by_cases e : n = k
    · subst e; simp [upd_same]
    · rw [upd_ne _ _ e]; exact a4
  · rw [f2, f3]
    by_cases e : n = k
    · subst e; rw [upd_same, I.ons, h0]; rfl
    · rw [upd_ne _ _ e]; exact I.ons n
  · rw [f3] at h
    obtain ⟨a1, a2⟩ := I.onw n ws h
    exact ⟨a1, fun p hp => by rw [hpn]; exact a2 p hp⟩
  · have hol : onL (quitS S k l0) k = onL S k := by unfold onL; rw [g3]
    have A1 := joinFold (slot := k) (by omega) (onL_nodup S k) l (I.quit (by omega) h0) hl.labs (fun q _ => by rw [upd_same]; simp [hasL]) (fun p h => by
      obtain ⟨h1, h2⟩ := (I.onL_mem k p).1 h
      refine ⟨h1, by rw [guestL_congr g1]; exact (I.guest p).labs, fun q hq => ?_⟩
      simp [h2])
    refine (A1.of_fields (T := joinS (quitS S k l0) k l) (by unfold joinS; rw [hol]) (by unfold joinS; rw [hol]) (by unfold joinS; rw [hol]) (fun q => by unfold joinS guestL; rw [hol])).congr (fun n _ b => ?_) (fun b p hp => ?_)
    · rw [hnl]
      by_cases e : n = k
      · subst e; simp [upd_same]
      · rw [if_neg (by omega), upd_ne _ _ e, upd_ne _ _ e]
    · unfold VV
      rw [hpn]
      cases h : podNode S p with
      | none =>
        have : p ∉ onL S k := fun h2 => by have := ((I.onL_mem k p).1 h2).2; rw [h] at this; cases this
        simp [this]
      | some n =>
        simp only
        rw [hnl]
        by_cases e : n = k
        · subst e
          have : p ∈ onL S k := (I.onL_mem k p).2 ⟨hp, h⟩
          simp [this]
        · have : p ∉ onL S k := fun h2 => by have := ((I.onL_mem k p).1 h2).2; rw [h] at this; cases this; exact e rfl
          rw [if_neg e]
          simp [this, e]
end Go.Proofs.YtmenipaibjifiaaGreatDoor

namespace Go.Proofs.YtmenipaibjifiaaGreatDoor
open Go.RowKit

def enterNode (S : St) (ls : List Lab) (p n : Int) : St := ls.foldl (fun S l => enterS S (spotOf l) p n) S
theorem enterNode_fields (p n : Int) : ∀ (ls : List Lab) (S : St), (enterNode S ls p n).guests = S.guests ∧ (enterNode S ls p n).nodes = S.nodes ∧ (enterNode S ls p n).on = S.on ∧ (enterNode S ls p n).values = S.values ∧ ∀ b, ((enterNode S ls p n).areas b).isSome = (S.areas b).isSome
  | [], S => ⟨rfl, rfl, rfl, rfl, fun _ => rfl⟩
  | l :: r, S => by
    obtain ⟨h1, h2, h3, h4, h5⟩ := enterS_fields S (spotOf l) p n
    obtain ⟨g1, g2, g3, g4, g5⟩ := enterNode_fields p n r (enterS S (spotOf l) p n)
    exact ⟨g1.trans h1, g2.trans h2, g3.trans h3, g4.trans h4, fun b => (g5 b).trans (h5 b)⟩
theorem AInv.plusNode {M : Nat → List Lab} {p : Nat} (hp : p < 2048) : ∀ (ls : List Lab) {V : Spot → Nat → Bool} {S : St}, AInv M V S → ls.Nodup → (guestL S p).Nodup → (∀ l ∈ ls, V (spotOf l) p = false ∧ (S.areas (spotOf l)).isSome = true) →
    AInv M (fun b q => V b q || (decide (q = p) && hasL ls b)) (enterNode S ls p 1)
  | [], V, S, A, _, _, _ => A.congr (fun _ _ _ => rfl) (fun b q _ => by simp [hasL])
  | l :: r, V, S, A, hn, hg, hV => by
    rw [List.nodup_cons] at hn
    obtain ⟨q1, q2⟩ := hV l (by simp)
    obtain ⟨f1, _, _, _, f5⟩ := enterS_fields S (spotOf l) p 1
    have hsp : ∀ q ∈ r, spotOf q ≠ spotOf l := fun q hq e => hn.1 (by
      obtain ⟨q1, q2⟩ := q
      obtain ⟨l1, l2⟩ := l
      simp only [spotOf, Prod.mk.injEq] at e
      obtain ⟨rfl, rfl⟩ := e
      exact hq)
    have A2 := AInv.plusNode hp r (A.plus hp hg q1 q2) hn.2 (by rw [guestL_congr f1]; exact hg) (fun q hq => by
      obtain ⟨a1, a2⟩ := hV q (by simp [hq])
      exact ⟨by rw [upd_ne _ _ (hsp q hq)]; exact a1, by rw [f5]; exact a2⟩)
    refine A2.congr (fun _ _ _ => rfl) (fun b q _ => ?_)
    rw [hasL_cons]
    by_cases e : b = spotOf l
    · subst e
      rw [upd_same]
      by_cases e2 : q = p
      · subst e2; simp [upd_same]
      · simp [upd_ne _ _ e2, e2]
    · simp [upd_ne _ _ e, e]
theorem AInv.minusNode {M : Nat → List Lab} {p : Nat} (hp : p < 2048) : ∀ (ls : List Lab) {V : Spot → Nat → Bool} {S : St}, AInv M V S → ls.Nodup → (guestL S p).Nodup → (∀ l ∈ ls, V (spotOf l) p = true ∧ (S.areas (spotOf l)).isSome = true) →
    AInv M (fun b q => V b q && !(decide (q = p) && hasL ls b)) (enterNode S ls p (-1))
  | [], V, S, A, _, _, _ => A.congr (fun _ _ _ => rfl) (fun b q _ => by simp [hasL])
  | l :: r, V, S, A, hn, hg, hV => by
    rw [List.nodup_cons] at hn
    obtain ⟨q1, q2⟩ := hV l (by simp)
    obtain ⟨f1, _, _, _, f5⟩ := enterS_fields S (spotOf l) p (-1)
    have hsp : ∀ q ∈ r, spotOf q ≠ spotOf l := fun q hq e => hn.1 (by
      obtain ⟨q1, q2⟩ := q
      obtain ⟨l1, l2⟩ := l
      simp only [spotOf, Prod.mk.injEq] at e
      obtain ⟨rfl, rfl⟩ := e
      exact hq)
    have A2 := AInv.minusNode hp r (A.minus hp hg q1 q2) hn.2 (by rw [guestL_congr f1]; exact hg) (fun q hq => by
      obtain ⟨a1, a2⟩ := hV q (by simp [hq])
      exact ⟨by rw [upd_ne _ _ (hsp q hq)]; exact a1, by rw [f5]; exact a2⟩)
    refine A2.congr (fun _ _ _ => rfl) (fun b q _ => ?_)
    rw [hasL_cons]
    by_cases e : b = spotOf l
    · subst e
      rw [upd_same]
      by_cases e2 : q = p
      · subst e2; simp [upd_same]
      · simp [upd_ne _ _ e2, e2]
    · simp [upd_ne _ _ e, e]
/-- A label of a node that is there has its area. -/
theorem Inv.area {S : St} (I : Inv S) {s : Int} {l : Lab} (h : l ∈ nodeL S s) : (S.areas (spotOf l)).isSome = true := by
  cases hs : S.nodes s with
  | none => simp [nodeL, hs] at h
  | some m =>
    obtain ⟨b1, b2, _⟩ := I.nb s m hs
    obtain ⟨k, rfl⟩ : ∃ k : Nat, s = k := ⟨s.toNat, by omega⟩
    cases ha : S.areas (spotOf l) with
    | some _ => rfl
    | none =>
      have := (I.a.no _ ha).1 k (by omega)
      rw [hasL_spot] at this
      simp only [decide_eq_false_iff_not] at this
      exact absurd h this
def onAdd (S : St) (s p : Int) : Int → Option (List Nat) := match S.on s with
  | some ws => upd S.on s (some (addW 2048 ws p))
  | none => S.on
def onDel (S : St) (s p : Int) : Int → Option (List Nat) := match S.on s with
  | some ws => upd S.on s (some (delW 2048 ws p))
  | none => S.on
def addPod (S : St) (s p : Int) (l : List Lab) : St := enterNode { S with guests := upd S.guests p (some (l, s)), on := onAdd S s p } (nodeL S s) p 1
def delPod (S : St) (s p : Int) : St := let T := enterNode S (nodeL S s) p (-1); { T with guests := upd T.guests p none, on := onDel T s p }
theorem Inv.addPod {S : St} (I : Inv S) {s p : Int} {l : List Lab} (hs : (S.nodes s).isSome = true) (hp : 0 ≤ p ∧ p < 2048) (h0 : S.guests p = none) (hl : KeysNodup l) : Inv (addPod S s p l) := by
  obtain ⟨k, rfl⟩ : ∃ k : Nat, p = k := ⟨p.toNat, by omega⟩
  have hk : k < 2048 := by omega
  obtain ⟨ws, hws⟩ := Option.isSome_iff_exists.1 (show (S.on s).isSome = true by rw [I.ons]; exact hs)
  obtain ⟨hw1, hw2⟩ := I.onw s ws hws
  have hon : onAdd S s k = upd S.on s (some (addW 2048 ws k)) := by unfold onAdd; rw [hws]
  obtain ⟨f1, f2, f3, _, _⟩ := enterNode_fields (k : Int) 1 (nodeL S s) { S with guests := upd S.guests k (some (l, s)), on := onAdd S s k }
  have g1 : (Go.Proofs.YtmenipaibjifiaaGreatDoor.addPod S s k l).guests = upd S.guests k (some (l, s)) := f1
  have g2 : (Go.Proofs.YtmenipaibjifiaaGreatDoor.addPod S s k l).nodes = S.nodes := f2
  have g3 : (Go.Proofs.YtmenipaibjifiaaGreatDoor.addPod S s k l).on = upd S.on s (some (addW 2048 ws k)) := f3.trans hon
  have hpn0 : podNode S k = none := by unfold podNode; rw [h0]; rfl
  have hpn : ∀ q, podNode (Go.Proofs.YtmenipaibjifiaaGreatDoor.addPod S s k l) q = if q = (k : Int) then some s else podNode S q := fun q => by
    unfold podNode
    rw [g1]
    by_cases e : q = (k : Int)
    · subst e; simp [upd_same]
    · rw [upd_ne _ _ e, if_neg e]
  have hnl : ∀ n, nodeL (Go.Proofs.YtmenipaibjifiaaGreatDoor.addPod S s k l) n = nodeL S n := fun n => by unfold nodeL; rw [g2]
  refine ⟨fun n m h => by rw [g2] at h; exact I.nb n m h, fun q m n h => ?_, fun n => ?_, fun n w2 h => ?_, ?_⟩
  · rw [g1] at h
    rw [g2]
    by_cases e : q = (k : Int)
    · subst e
      rw [upd_same] at h
      cases h
      exact ⟨hp.1, hp.2, hl, hs⟩
    · rw [upd_ne _ _ e] at h; exact I.gb q m n h
  · rw [g2, g3]
    by_cases e : n = s
    · subst e; rw [upd_same, hs]; rfl
    · rw [upd_ne _ _ e]; exact I.ons n
  · rw [g3] at h
    by_cases e : n = s
    · subst e
      rw [upd_same] at h
      obtain rfl := Option.some.inj h
      refine ⟨by rw [addW_length]; exact hw1, fun q hq => ?_⟩
      rw [memW_add (by rw [hw1]) k q hk, hw2 q hq, hpn]
      by_cases e2 : q = k
      · subst e2; simp
      · rw [if_neg (by omega)]; simp [e2]
    · rw [upd_ne _ _ e] at h
      obtain ⟨a1, a2⟩ := I.onw n w2 h
      refine ⟨a1, fun q hq => ?_⟩
      rw [a2 q hq, hpn]
      by_cases e2 : q = k
      · subst e2
        rw [if_pos rfl, hpn0]
        simp [Ne.symm e]
      · rw [if_neg (by omega)]
  · have hV0 : ∀ b, VV S b k = false := fun b => by unfold VV; rw [hpn0]
    have A0 : AInv (fun s => nodeL S s) (VV S) { S with guests := upd S.guests k (some (l, s)), on := onAdd S s k } := by
      refine ⟨I.a.no, I.a.yes, I.a.vno, I.a.vyes, fun t => ?_⟩
      rw [show ({ S with guests := upd S.guests k (some (l, s)), on := onAdd S s k } : St).counts = S.counts from rfl, I.a.cts t]
      refine congrArg optNum ?_
      refine cnt_congr fun q _ => ?_
      by_cases e : q = k
      · subst e; simp [hV0]
      · have eg : guestL ({ S with guests := upd S.guests k (some (l, s)), on := onAdd S s k } : St) q = guestL S q := by
          unfold guestL
          simp only [upd_ne S.guests _ (show (q : Int) ≠ k by omega)]
        rw [eg]
    have hgl : guestL ({ S with guests := upd S.guests k (some (l, s)), on := onAdd S s k } : St) k = l := by unfold guestL; simp only [upd_same]
    have A1 := AInv.plusNode hk (nodeL S s) A0 (I.node s).labs (by rw [hgl]; exact hl.labs) (fun q hq => ⟨hV0 _, I.area hq⟩)
    refine AInv.congr (S := Go.Proofs.YtmenipaibjifiaaGreatDoor.addPod S s k l) A1 (fun n _ b => by rw [hnl]) (fun b q _ => ?_)
    unfold VV
    rw [hpn]
    by_cases e : q = k
    · subst e
      rw [if_pos rfl, hpn0]
      simp [hnl]
    · rw [if_neg (by omega)]
      simp [e, hnl]
theorem Inv.delPod {S : St} (I : Inv S) {s p : Int} (h0 : podNode S p = some s) : Inv (delPod S s p) := by
  obtain ⟨⟨l, s'⟩, hg, hss⟩ := Option.map_eq_some_iff.1 h0
  obtain rfl : s' = s := hss
  obtain ⟨hp1, hp2, hl, hs⟩ := I.gb _ _ _ hg
  obtain ⟨k, rfl⟩ : ∃ k : Nat, p = k := ⟨p.toNat, by omega⟩
  have hk : k < 2048 := by omega
  obtain ⟨ws, hws⟩ := Option.isSome_iff_exists.1 (show (S.on s').isSome = true by rw [I.ons]; exact hs)
  obtain ⟨hw1, hw2⟩ := I.onw s' ws hws
  obtain ⟨f1, f2, f3, _, _⟩ := enterNode_fields (k : Int) (-1) (nodeL S s') S
  have g1 : (Go.Proofs.YtmenipaibjifiaaGreatDoor.delPod S s' k).guests = upd S.guests k none := by unfold Go.Proofs.YtmenipaibjifiaaGreatDoor.delPod; simp only [f1]
  have g2 : (Go.Proofs.YtmenipaibjifiaaGreatDoor.delPod S s' k).nodes = S.nodes := f2
  have g3 : (Go.Proofs.YtmenipaibjifiaaGreatDoor.delPod S s' k).on = upd S.on s' (some (delW 2048 ws k)) := by unfold Go.Proofs.YtmenipaibjifiaaGreatDoor.delPod onDel; simp only [f3, hws]
  have hpn : ∀ q, podNode (Go.Proofs.YtmenipaibjifiaaGreatDoor.delPod S s' k) q = if q = (k : Int) then none else podNode S q := fun q => by
    unfold podNode
    rw [g1]
    by_cases e : q = (k : Int)
    · subst e; simp [upd_same]
    · rw [upd_ne _ _ e, if_neg e]
  have hnl : ∀ n, nodeL (Go.Proofs.YtmenipaibjifiaaGreatDoor.delPod S s' k) n = nodeL S n := fun n => by unfold nodeL; rw [g2]
  refine ⟨fun n m h => by rw [g2] at h; exact I.nb n m h, fun q m n h => ?_, fun n => ?_, fun n w2 h => ?_, ?_⟩
  · rw [g1] at h
    rw [g2]
    by_cases e : q = (k : Int)
    · subst e; rw [upd_same] at h; cases h
    · rw [upd_ne _ _ e] at h; exact I.gb q m n h
  · rw [g2, g3]
    by_cases e : n = s'
    · subst e; rw [upd_same, hs]; rfl
    · rw [upd_ne _ _ e]; exact I.ons n
  · rw [g3] at h
    by_cases e : n = s'
    · subst e
      rw [upd_same] at h
      obtain rfl := Option.some.inj h
      refine ⟨by rw [delW_length]; exact hw1, fun q hq => ?_⟩
      rw [memW_del (by rw [hw1]) k q hk, hw2 q hq, hpn]
      by_cases e2 : q = k
      · subst e2; simp
      · rw [if_neg (by omega)]; simp [e2]
    · rw [upd_ne _ _ e] at h
      obtain ⟨a1, a2⟩ := I.onw n w2 h
      refine ⟨a1, fun q hq => ?_⟩
      rw [a2 q hq, hpn]
      by_cases e2 : q = k
      · subst e2
        rw [if_pos rfl, h0]
        simp [Ne.symm e]
      · rw [if_neg (by omega)]
  · have A1 := AInv.minusNode hk (nodeL S s') I.a (I.node s').labs (I.guest k).labs (fun q hq => ⟨by rw [VV_node h0, hasL_spot]; simpa using hq, I.area hq⟩)
    have hV : ∀ b q, VV (Go.Proofs.YtmenipaibjifiaaGreatDoor.delPod S s' k) b q = (VV S b q && !(decide (q = k) && hasL (nodeL S s') b)) := fun b q => by
      unfold VV
      rw [hpn]
      by_cases e : q = k
      · subst e
        rw [if_pos rfl, h0]
        simp
      · rw [if_neg (by omega)]
        simp [e, hnl]
    have A2 : AInv (fun s : Nat => nodeL (Go.Proofs.YtmenipaibjifiaaGreatDoor.delPod S s' k) s) (VV (Go.Proofs.YtmenipaibjifiaaGreatDoor.delPod S s' k)) (enterNode S (nodeL S s') k (-1)) := A1.congr (fun n _ b => by rw [hnl]) (fun b q _ => hV b q)
    refine ⟨A2.no, A2.yes, A2.vno, A2.vyes, fun t => ?_⟩
    rw [show (Go.Proofs.YtmenipaibjifiaaGreatDoor.delPod S s' k).counts = (enterNode S (nodeL S s') k (-1)).counts from rfl, A2.cts t]
    refine congrArg optNum ?_
    refine cnt_congr fun q _ => ?_
    by_cases e : q = k
    · subst e
      have : VV (Go.Proofs.YtmenipaibjifiaaGreatDoor.delPod S s' q) t.1 q = false := by unfold VV; rw [hpn, if_pos rfl]
      simp [this]
    · have eg : guestL (Go.Proofs.YtmenipaibjifiaaGreatDoor.delPod S s' k) q = guestL (enterNode S (nodeL S s') k (-1)) q := by
        unfold guestL
        rw [g1, f1, upd_ne _ _ (by omega)]
      rw [eg]
end Go.Proofs.YtmenipaibjifiaaGreatDoor

namespace Go.Proofs.YtmenipaibjifiaaGreatDoor
open Go.RowKit

/-- A domain that is there has its key. -/
def AV (S : St) : Prop := ∀ b : Spot, (S.areas b).isSome = true → (S.values b.1).isSome = true
theorem AInv.av {M : Nat → List Lab} {V : Spot → Nat → Bool} {S : St} (A : AInv M V S) : AV S := by
  intro b hb
  obtain ⟨⟨x, y⟩, ha⟩ := Option.isSome_iff_exists.1 hb
  obtain ⟨⟨s, hs, h1⟩, _⟩ := A.yes b x y ha
  cases e : S.values b.1 with
  | some g => rfl
  | none =>
    have := A.vno _ e b.2 s hs
    rw [h1] at this
    cases this
theorem upd_isSome {κ α : Type} [DecidableEq κ] {f : κ → Option α} {k j : κ} {x : α} (h : (f j).isSome = true) : (upd f k (some x) j).isSome = true := by
  by_cases e : j = k
  · subst e; rw [upd_same]; rfl
  · rw [upd_ne _ _ e]; exact h
theorem AV.mkArea {S : St} (h : AV S) (l : Lab) : AV (mkArea S l) ∧ ((mkArea S l).areas (spotOf l)).isSome = true ∧ ((mkArea S l).values l.key).isSome = true := by
  unfold Go.Proofs.YtmenipaibjifiaaGreatDoor.mkArea
  cases e : S.areas (spotOf l) with
  | some p => exact ⟨h, by simp [e], h (spotOf l) (by rw [e]; rfl)⟩
  | none =>
    refine ⟨fun b hb => ?_, by simp [upd_same], by simp [upd_same]⟩
    by_cases e2 : b = spotOf l
    · subst e2; simp [upd_same, spotOf]
    · simp only [upd_ne _ _ e2] at hb
      exact upd_isSome (h b hb)
theorem AV.bumpV {S : St} (h : AV S) (l : Lab) (x : Int) : AV (bumpV S l x) := fun b hb => upd_isSome (h b hb)
theorem nodeSet_isSome (S : St) (l : Lab) (slot : Int) (v : Bool) (b : Spot) : ((nodeSet S l slot v).areas b).isSome = (S.areas b).isSome := by
  unfold nodeSet
  split
  · next x y h =>
    by_cases e : b = spotOf l
    · subst e; simp [upd_same, h]
    · simp [upd_ne _ _ e]
  · rfl
theorem nodeSet_values (S : St) (l : Lab) (slot : Int) (v : Bool) : (nodeSet S l slot v).values = S.values := by
  unfold nodeSet
  split <;> rfl
theorem AV.nodeSet {S : St} (h : AV S) (l : Lab) (slot : Int) (v : Bool) : AV (nodeSet S l slot v) := fun b hb => by
  rw [nodeSet_isSome] at hb
  rw [nodeSet_values]
  exact h b hb
theorem AV.enterAll {S : St} (h : AV S) (at_ : Spot) (ps : List Nat) (n : Int) : AV (enterAll S at_ ps n) := by
  obtain ⟨_, _, _, h4, h5⟩ := enterAll_fields at_ n ps S
  intro b hb
  rw [h5] at hb
  rw [h4]
  exact h b hb
theorem AV.joinOne {S : St} (h : AV S) (slot : Int) (ps : List Nat) (l : Lab) : AV (joinOne slot ps S l) := (((h.mkArea l).1.bumpV l 1).nodeSet l slot true).enterAll _ _ _
theorem AV.joinFold (slot : Int) (ps : List Nat) : ∀ (ls : List Lab) {S : St}, AV S → AV (ls.foldl (Go.Proofs.YtmenipaibjifiaaGreatDoor.joinOne slot ps) S)
  | [], _, h => h
  | l :: r, _, h => AV.joinFold slot ps r (h.joinOne slot ps l)
theorem small_mkArea {S : St} {K : Int} (h : Small S K) (l : Lab) : Small (mkArea S l) K := by
  unfold mkArea
  split
  · exact h
  · refine ⟨h.counts, fun k g v q e1 e2 => ?_⟩
    by_cases e : k = l.key
    · subst e
      simp only [upd_same, Option.some.injEq] at e1
      subst e1
      unfold innerG at e2
      cases hg : S.values l.key with
      | some g =>
        simp only [hg] at e2
        exact h.values _ g v q hg e2
      | none =>
        simp only [hg] at e2
        cases e2
    · simp only [upd_ne _ _ e] at e1
      exact h.values k g v q e1 e2
theorem small_bumpV {S : St} {K : Int} (h : Small S K) (hK : 0 ≤ K) (l : Lab) (x : Int) (hx : -1 ≤ x ∧ x ≤ 1) : Small (bumpV S l x) (K + 1) := by
  have h0 := h.getV hK l.key l.val
  refine ⟨(h.mono (by omega)).counts, fun k g v q e1 e2 => ?_⟩
  unfold bumpV at e1
  by_cases e : k = l.key
  · subst e
    simp only [upd_same, Option.some.injEq] at e1
    subst e1
    by_cases ev : v = l.val
    · subst ev
      rw [upd_same] at e2
      simp only [Option.some.injEq] at e2
      omega
    · rw [upd_ne _ _ ev] at e2
      unfold innerG at e2
      cases hg : S.values l.key with
      | some g =>
        simp only [hg] at e2
        have := h.values _ g v q hg e2; omega
      | none =>
        simp only [hg] at e2
        cases e2
  · simp only [upd_ne _ _ e] at e1
    have := h.values k g v q e1 e2; omega
theorem small_nodeSet {S : St} {K : Int} (h : Small S K) (l : Lab) (slot : Int) (v : Bool) : Small (nodeSet S l slot v) K := by
  unfold nodeSet
  split
  · exact ⟨h.counts, h.values⟩
  · exact h
def enterAllI (S : St) (at_ : Spot) (ps : List Int) (n : Int) : St := ps.foldl (fun S p => enterS S at_ p n) S
theorem enterAllI_nat (S : St) (at_ : Spot) (ps : List Nat) (n : Int) : enterAllI S at_ (ps.map fun (i : Nat) => (i : Int)) n = enterAll S at_ ps n := by
  unfold enterAllI enterAll
  rw [List.foldl_map]
theorem enterAllI_snoc (S : St) (at_ : Spot) (ps : List Int) (p n : Int) : enterAllI S at_ (ps ++ [p]) n = enterS (enterAllI S at_ ps n) at_ p n := by
  unfold enterAllI
  rw [List.foldl_append]; rfl
theorem enterAllI_fields (at_ : Spot) (n : Int) : ∀ (ps : List Int) (S : St), (enterAllI S at_ ps n).guests = S.guests ∧ (enterAllI S at_ ps n).nodes = S.nodes ∧ (enterAllI S at_ ps n).on = S.on ∧ (enterAllI S at_ ps n).values = S.values ∧ ∀ b, ((enterAllI S at_ ps n).areas b).isSome = (S.areas b).isSome
  | [], S => ⟨rfl, rfl, rfl, rfl, fun _ => rfl⟩
  | p :: r, S => by
    obtain ⟨h1, h2, h3, h4, h5⟩ := enterS_fields S at_ p n
    obtain ⟨g1, g2, g3, g4, g5⟩ := enterAllI_fields at_ n r (enterS S at_ p n)
    exact ⟨g1.trans h1, g2.trans h2, g3.trans h3, g4.trans h4, fun b => (g5 b).trans (h5 b)⟩
/-- Each pod has few labels. -/
def Few (S : St) : Prop := ∀ p, (guestL S p).length ≤ 32
theorem Few.of {S T : St} (h : Few S) (e : T.guests = S.guests) : Few T := fun p => by rw [guestL_congr e]; exact h p
theorem small_enterAllI {at_ : Spot} {n : Int} (hn : -1 ≤ n ∧ n ≤ 1) : ∀ (ps : List Int) {S : St} {K : Int}, Few S → Small S K → 0 ≤ K → Small (enterAllI S at_ ps n) (K + 32 * ps.length)
  | [], S, K, _, h, _ => by simpa [enterAllI] using h
  | p :: r, S, K, hf, h, hK => by
    have h1 := small_enterS h hK at_ p n hn
    have hl := hf p
    obtain ⟨f1, _⟩ := enterS_fields S at_ p n
    have h2 := small_enterAllI (at_ := at_) hn r (hf.of f1) (h1.mono (L := K + 32) (by omega)) (by omega)
    refine Small.mono (S := enterAllI S at_ (p :: r) n) h2 ?_
    simp only [List.length_cons]
    push_cast
    omega
theorem small_joinOne {S : St} {K : Int} (hf : Few S) (h : Small S K) (hK : 0 ≤ K) (slot : Int) (ps : List Nat) (hps : ps.length ≤ 2048) (l : Lab) : Small (joinOne slot ps S l) (K + 65537) := by
  have h1 := small_nodeSet (small_bumpV (small_mkArea h l) hK l 1 (by omega)) l slot true
  obtain ⟨f1, _⟩ := plus_fields S l slot
  have h2 := small_enterAllI (at_ := spotOf l) (n := 1) (by omega) (ps.map fun (i : Nat) => (i : Int)) (hf.of f1) h1 (by omega)
  rw [enterAllI_nat] at h2
  exact Small.mono h2 (by simp; omega)
theorem Few.joinOne {S : St} (hf : Few S) (slot : Int) (ps : List Nat) (l : Lab) : Few (joinOne slot ps S l) := hf.of (joinOne_fields slot ps S l).1
theorem small_joinFold (slot : Int) {ps : List Nat} (hps : ps.length ≤ 2048) : ∀ (ls : List Lab) {S : St} {K : Int}, Few S → Small S K → 0 ≤ K → Small (ls.foldl (joinOne slot ps) S) (K + 65537 * ls.length)
  | [], S, K, _, h, _ => by simpa using h
  | l :: r, S, K, hf, h, hK => by
    have h2 := small_joinFold slot hps r (hf.joinOne slot ps l) (small_joinOne hf h hK slot ps hps l) (by omega)
    rw [List.foldl_cons]
    refine h2.mono ?_
    simp only [List.length_cons]
    push_cast
    omega
end Go.Proofs.YtmenipaibjifiaaGreatDoor
