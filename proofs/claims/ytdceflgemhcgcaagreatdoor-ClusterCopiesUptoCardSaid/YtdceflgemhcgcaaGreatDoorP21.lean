/-
  berthlaw06.Wipe: a slice written over, its room too: nothing but its own block has been written.
-/
import Derived.Test.YtdceflgemhcgcaaGreatDoorP20
import Derived.Test.YtdceflgemhcgcaaGreatDoorP16
set_option linter.unusedVariables false
set_option linter.unusedSimpArgs false
namespace Go.Proofs.YtdceflgemhcgcaaGreatDoor
open Go.RowKit Go.BigFrame

theorem wpList_appendR {P : Program} {w w1 : World} {ops : Array Oper} {rest : List Oper} {o : Oper} {a : Act} {Q : Exit → Act → World → Prop} (hgd : o.guard = none) (s x : Operand) (t : TypeId)
    (ho : o.op = .call { callee := .builtin .append, args := #[s, x], argTypes := #[t, t] }) (v vx v1 : Value) (hs : a.eval s = v) (hx : a.eval x = vx)
    (hrun : (Builtin.append_ #[t, t] o.type #[v, vx]).run P w = .ok v1 w1) (h : wpList P ops Q rest (a.put o.dst v1) w1) : wpList P ops Q (o :: rest) a w := by
  refine wpList_plain hgd fun K hK => ?_
  unfold Oper.wp
  simp [execOp, ho, resolve, invoke, builtin, hs, hx, hrun, Result.andThen]
  exact hK _ _ h
set_option maxRecDepth 100000 in
set_option maxHeartbeats 8000000 in
theorem wipeL_k (R : Ending → World → Prop) (w : World) (X : Nat → Prop) (v : Value) (n : Nat) (h : RoomV 2 X w v n) (hX : ∀ k, X k → k < w.heap.size) (hl : n ≤ 1073741824) (s : Lab)
    (hR : ∀ w', Mod X w w' → Th w w' → R (.returned (.tuple #[])) w') :
    Calls Tryz.prog 55 #[v, .agg #[.string s.key, .string s.val]] w R := by
  have h0 := h
  obtain ⟨A, c, rfl, hnc, hcm, hA⟩ := h0
  have HR := Lib.hid hR
  have HXX := Lib.hid hX
  obtain ⟨w1, hw1⟩ : ∃ w1, w1 = w.alloc (.cells #[.string s.key, .string s.val] 118) := ⟨_, rfl⟩
  have HB1 := Lib.hid (show Below w.heap.size w w1 by rw [hw1]; exact Below.alloc (Below.refl _ _) (Nat.le_refl _) _)
  have o1 : w1.heap[w.heap.size]? = some (.cells #[.string s.key, .string s.val] 118 (0, 0)) := by rw [hw1]; exact heap_alloc_new w _
  have HO1 := Lib.hid o1
  have nX : ¬ X (w.heap.size) := fun e => by have := HXX.out _ e; omega
  have HH := Lib.hid (h.move (Y := X) (fun k hk hl => HB1.out.block k hl) (fun _ h => h) HB1.out.size)
  have HT1 := Lib.hid (show Th w w1 by rw [hw1]; exact (Th.refl w).alloc _)
  have z1 : w.heap.size < w1.heap.size := (Array.getElem?_eq_some_iff.1 o1).1
  clear hR h hA hX o1
  go_enter Tryz.func55, Tryz.ntmps55
  go_upto_region 1 with fail
  rw [← hw1]
  clear hw1
  go_wp2_with fail
  go_loopw [9] (fun i wr => ∃ k : Nat, k ≤ n ∧ i = .int .i64 k ∧ Mod X w1 wr ∧ Th w1 wr ∧ RoomV 2 X wr (.slice A n c) n) (fun i _ => n - (intOf i).toNat)
  case atStart => exact ⟨0, Nat.zero_le _, rfl, Mod.refl _ _, Th.refl _, HH.out⟩
  case round =>
    obtain ⟨k, hk, rfl, hM, hT, hroom⟩ := hrel
    have HTT := Lib.hid hT
    clear hT
    have HM := Lib.hid hM
    have HRM := Lib.hid hroom
    by_cases hlt : k < n
    · obtain ⟨A', c', e', _, _, h4⟩ := hroom
      simp only [Value.slice.injEq, true_and] at e'
      obtain ⟨eA, ec⟩ := e'
      subst eA
      subst ec
      rcases h4 with h4 | ⟨b, off, hA, hXb, hb, hth⟩
      · omega
      subst hA
      have hle : k * 2 + 2 ≤ c * 2 := by omega
      have hth2 : wr.there b (off + k * 2) 2 := fun j hj => by
        have := hth (k * 2 + j) (by omega)
        rwa [← Nat.add_assoc] at this
      have ob : wr.heap[w.heap.size]? = some (.cells #[.string s.key, .string s.val] 118 (0, 0)) := (HM.out.block _ z1 nX).trans HO1.out
      have HTH := Lib.hid hth
      have HXB := Lib.hid hXb
      clear hM hth hXb
      obtain ⟨wn, hwn⟩ : ∃ W, W = wr.setCells b (off + k * 2) [.string s.key, .string s.val] := ⟨_, rfl⟩
      have HWN := Lib.hid hwn
      go_wp2_with (first | (refine wpList_load_row rfl 118 _ rfl w.heap.size rfl 118 #[.string s.key, .string s.val] (0, 0) _ ob Tryz.underlying118 rfl (by kernel_rfl) ?_) | (refine wpList_store_mid rfl 118 _ _ rfl b (off + k * 2) #[.string s.key, .string s.val] rfl rfl hth2 (by kernel_rfl) (by simp [Value.oneCell']) ?_; rw [← hwn]; clear hwn hth2 ob))
      go_roundw
      case rel =>
        rw [HWN.out]
        exact ⟨k + 1, by omega, by go_num, HM.out.trans (mod_setCells _ b _ _) (fun _ _ e => by rw [e]; exact HXB.out), HTT.out.setCells _ _ _, ⟨_, c, rfl, hnc, hcm, .inr ⟨b, off, rfl, HXB.out, by rw [size_setCells_]; exact hb, World.there_setCells HTH.out _ _ _⟩⟩⟩
      case measure => simp [intOf]; omega
    · obtain rfl : k = n := by omega
      clear hM hroom hlt hk
      go_wp2_with fail
      go_loopw [5, 6] (fun g i wr => ∃ q : Nat, q ≤ 80 ∧ i = .int .i64 q ∧ Mod X w1 wr ∧ Th w1 wr ∧ RoomV 2 (fun j => X j ∨ w1.heap.size ≤ j) wr g (k + q)) (fun _ i _ => 80 - (intOf i).toNat)
      case atStart => exact ⟨0, by omega, rfl, HM.out, HTT.out, HRM.out.move (fun _ _ _ => rfl) (fun _ h => .inl h) (Nat.le_refl _)⟩
      case round =>
        obtain ⟨q, hq, rfl, hM, hT, hroom⟩ := hrel
        have HM := Lib.hid hM
        have HTT := Lib.hid hT
        clear hM hT
        by_cases hlt : q < 80
        · obtain ⟨v1, w3, hrun, hr3, hm3, ht3⟩ := append_wild (P := Tryz.prog) 22 22 118 (.agg #[.string ⟨#[]⟩, .string ⟨#[]⟩]) 32 Tryz.underlying22 infoLab rfl (fun j => X j ∨ w1.heap.size ≤ j) _ (k + q) hroom #[.string s.key, .string s.val] rfl (by simp [Value.oneCell']) (by omega) (by decide)
          obtain ⟨A', c', e', _, _, _⟩ := hroom
          subst e'
          have HR3 := Lib.hid hr3
          have HM3 := Lib.hid hm3
          have HT3 := Lib.hid (HTT.out.trans ht3)
          have HM4 := Lib.hid (HM.out.trans HM3.out (fun j hj h => h.elim id (fun h => by omega)))
          have ob : wr.heap[w.heap.size]? = some (.cells #[.string s.key, .string s.val] 118 (0, 0)) := (HM.out.block _ z1 nX).trans HO1.out
          clear hr3 hm3 ht3
          go_wp2_with (first | (refine wpList_load_row rfl 118 _ rfl w.heap.size rfl 118 #[.string s.key, .string s.val] (0, 0) _ ob Tryz.underlying118 rfl (by kernel_rfl) ?_) | (at_builtin; refine wpList_appendR rfl _ _ 22 rfl (.slice A' (k + q) c') (.slice (some ⟨wr.heap.size, 0, none⟩) 1 1) v1 rfl rfl hrun ?_; clear hrun ob))
          refine ⟨⟨q + 1, by omega, by go_num, HM4.out, HT3.out, HR3.out.move (fun _ _ _ => rfl) (fun j h => h.elim id (fun h => .inr (Nat.le_trans HM.out.size h))) (Nat.le_refl _)⟩, ?_⟩
          simp [intOf]; omega
        · have hv := HR.out wr (((Mod.of_below HB1.out).mono (T := X) (fun _ _ h => h.elim)).trans HM.out (fun _ _ h => h)) (HT1.out.trans HTT.out)
          obtain ⟨A', c', e', _, _, _⟩ := hroom
          subst e'
          have e80 : ¬ ((q : Int) < 80) := by omega
          clear hq
          go_wp2_with fail
          go_end0
          exact hv
set_option maxRecDepth 100000 in
set_option maxHeartbeats 8000000 in
theorem wipeT_k (R : Ending → World → Prop) (w : World) (X : Nat → Prop) (v : Value) (n : Nat) (h : RoomV 3 X w v n) (hX : ∀ k, X k → k < w.heap.size) (hl : n ≤ 1073741824) (s : Tnt)
    (hR : ∀ w', Mod X w w' → Th w w' → R (.returned (.tuple #[])) w') :
    Calls Tryz.prog 56 #[v, .agg #[.string s.key, .string s.val, .string s.eff]] w R := by
  have h0 := h
  obtain ⟨A, c, rfl, hnc, hcm, hA⟩ := h0
  have HR := Lib.hid hR
  have HXX := Lib.hid hX
  obtain ⟨w1, hw1⟩ : ∃ w1, w1 = w.alloc (.cells #[.string s.key, .string s.val, .string s.eff] 34) := ⟨_, rfl⟩
  have HB1 := Lib.hid (show Below w.heap.size w w1 by rw [hw1]; exact Below.alloc (Below.refl _ _) (Nat.le_refl _) _)
  have o1 : w1.heap[w.heap.size]? = some (.cells #[.string s.key, .string s.val, .string s.eff] 34 (0, 0)) := by rw [hw1]; exact heap_alloc_new w _
  have HO1 := Lib.hid o1
  have nX : ¬ X (w.heap.size) := fun e => by have := HXX.out _ e; omega
  have HH := Lib.hid (h.move (Y := X) (fun k hk hl => HB1.out.block k hl) (fun _ h => h) HB1.out.size)
  have HT1 := Lib.hid (show Th w w1 by rw [hw1]; exact (Th.refl w).alloc _)
  have z1 : w.heap.size < w1.heap.size := (Array.getElem?_eq_some_iff.1 o1).1
  clear hR h hA hX o1
  go_enter Tryz.func56, Tryz.ntmps56
  go_upto_region 1 with fail
  rw [← hw1]
  clear hw1
  go_wp2_with fail
  go_loopw [9] (fun i wr => ∃ k : Nat, k ≤ n ∧ i = .int .i64 k ∧ Mod X w1 wr ∧ Th w1 wr ∧ RoomV 3 X wr (.slice A n c) n) (fun i _ => n - (intOf i).toNat)
  case atStart => exact ⟨0, Nat.zero_le _, rfl, Mod.refl _ _, Th.refl _, HH.out⟩
  case round =>
    obtain ⟨k, hk, rfl, hM, hT, hroom⟩ := hrel
    have HTT := Lib.hid hT
    clear hT
    have HM := Lib.hid hM
    have HRM := Lib.hid hroom
    by_cases hlt : k < n
    · obtain ⟨A', c', e', _, _, h4⟩ := hroom
      simp only [Value.slice.injEq, true_and] at e'
      obtain ⟨eA, ec⟩ := e'
      subst eA
      subst ec
      rcases h4 with h4 | ⟨b, off, hA, hXb, hb, hth⟩
      · omega
      subst hA
      have hle : k * 3 + 3 ≤ c * 3 := by omega
      have hth2 : wr.there b (off + k * 3) 3 := fun j hj => by
        have := hth (k * 3 + j) (by omega)
        rwa [← Nat.add_assoc] at this
      have ob : wr.heap[w.heap.size]? = some (.cells #[.string s.key, .string s.val, .string s.eff] 34 (0, 0)) := (HM.out.block _ z1 nX).trans HO1.out
      have HTH := Lib.hid hth
      have HXB := Lib.hid hXb
      clear hM hth hXb
      obtain ⟨wn, hwn⟩ : ∃ W, W = wr.setCells b (off + k * 3) [.string s.key, .string s.val, .string s.eff] := ⟨_, rfl⟩
      have HWN := Lib.hid hwn
      go_wp2_with (first | (refine wpList_load_row rfl 34 _ rfl w.heap.size rfl 34 #[.string s.key, .string s.val, .string s.eff] (0, 0) _ ob Tryz.underlying34 rfl (by kernel_rfl) ?_) | (refine wpList_store_mid rfl 34 _ _ rfl b (off + k * 3) #[.string s.key, .string s.val, .string s.eff] rfl rfl hth2 (by kernel_rfl) (by simp [Value.oneCell']) ?_; rw [← hwn]; clear hwn hth2 ob))
      go_roundw
      case rel =>
        rw [HWN.out]
        exact ⟨k + 1, by omega, by go_num, HM.out.trans (mod_setCells _ b _ _) (fun _ _ e => by rw [e]; exact HXB.out), HTT.out.setCells _ _ _, ⟨_, c, rfl, hnc, hcm, .inr ⟨b, off, rfl, HXB.out, by rw [size_setCells_]; exact hb, World.there_setCells HTH.out _ _ _⟩⟩⟩
      case measure => simp [intOf]; omega
    · obtain rfl : k = n := by omega
      clear hM hroom hlt hk
      go_wp2_with fail
      go_loopw [5, 6] (fun g i wr => ∃ q : Nat, q ≤ 80 ∧ i = .int .i64 q ∧ Mod X w1 wr ∧ Th w1 wr ∧ RoomV 3 (fun j => X j ∨ w1.heap.size ≤ j) wr g (k + q)) (fun _ i _ => 80 - (intOf i).toNat)
      case atStart => exact ⟨0, by omega, rfl, HM.out, HTT.out, HRM.out.move (fun _ _ _ => rfl) (fun _ h => .inl h) (Nat.le_refl _)⟩
      case round =>
        obtain ⟨q, hq, rfl, hM, hT, hroom⟩ := hrel
        have HM := Lib.hid hM
        have HTT := Lib.hid hT
        clear hM hT
        by_cases hlt : q < 80
        · obtain ⟨v1, w3, hrun, hr3, hm3, ht3⟩ := append_wild (P := Tryz.prog) 23 23 34 (.agg #[.string ⟨#[]⟩, .string ⟨#[]⟩, .string ⟨#[]⟩]) 48 Tryz.underlying23 infoTnt rfl (fun j => X j ∨ w1.heap.size ≤ j) _ (k + q) hroom #[.string s.key, .string s.val, .string s.eff] rfl (by simp [Value.oneCell']) (by omega) (by decide)
          obtain ⟨A', c', e', _, _, _⟩ := hroom
          subst e'
          have HR3 := Lib.hid hr3
          have HM3 := Lib.hid hm3
          have HT3 := Lib.hid (HTT.out.trans ht3)
          have HM4 := Lib.hid (HM.out.trans HM3.out (fun j hj h => h.elim id (fun h => by omega)))
          have ob : wr.heap[w.heap.size]? = some (.cells #[.string s.key, .string s.val, .string s.eff] 34 (0, 0)) := (HM.out.block _ z1 nX).trans HO1.out
          clear hr3 hm3 ht3
          go_wp2_with (first | (refine wpList_load_row rfl 34 _ rfl w.heap.size rfl 34 #[.string s.key, .string s.val, .string s.eff] (0, 0) _ ob Tryz.underlying34 rfl (by kernel_rfl) ?_) | (at_builtin; refine wpList_appendR rfl _ _ 23 rfl (.slice A' (k + q) c') (.slice (some ⟨wr.heap.size, 0, none⟩) 1 1) v1 rfl rfl hrun ?_; clear hrun ob))
          refine ⟨⟨q + 1, by omega, by go_num, HM4.out, HT3.out, HR3.out.move (fun _ _ _ => rfl) (fun j h => h.elim id (fun h => .inr (Nat.le_trans HM.out.size h))) (Nat.le_refl _)⟩, ?_⟩
          simp [intOf]; omega
        · have hv := HR.out wr (((Mod.of_below HB1.out).mono (T := X) (fun _ _ h => h.elim)).trans HM.out (fun _ _ h => h)) (HT1.out.trans HTT.out)
          obtain ⟨A', c', e', _, _, _⟩ := hroom
          subst e'
          have e80 : ¬ ((q : Int) < 80) := by omega
          clear hq
          go_wp2_with fail
          go_end0
          exact hv
set_option maxRecDepth 100000 in
set_option maxHeartbeats 8000000 in
theorem wipeI_k (R : Ending → World → Prop) (w : World) (X : Nat → Prop) (v : Value) (n : Nat) (h : RoomV 2 X w v n) (hX : ∀ k, X k → k < w.heap.size) (hl : n ≤ 1073741824) (s : Itm)
    (hR : ∀ w', Mod X w w' → Th w w' → R (.returned (.tuple #[])) w') :
    Calls Tryz.prog 57 #[v, .agg #[.string s.name, .int .i64 s.n]] w R := by
  have h0 := h
  obtain ⟨A, c, rfl, hnc, hcm, hA⟩ := h0
  have HR := Lib.hid hR
  have HXX := Lib.hid hX
  obtain ⟨w1, hw1⟩ : ∃ w1, w1 = w.alloc (.cells #[.string s.name, .int .i64 s.n] 110) := ⟨_, rfl⟩
  have HB1 := Lib.hid (show Below w.heap.size w w1 by rw [hw1]; exact Below.alloc (Below.refl _ _) (Nat.le_refl _) _)
  have o1 : w1.heap[w.heap.size]? = some (.cells #[.string s.name, .int .i64 s.n] 110 (0, 0)) := by rw [hw1]; exact heap_alloc_new w _
  have HO1 := Lib.hid o1
  have nX : ¬ X (w.heap.size) := fun e => by have := HXX.out _ e; omega
  have HH := Lib.hid (h.move (Y := X) (fun k hk hl => HB1.out.block k hl) (fun _ h => h) HB1.out.size)
  have HT1 := Lib.hid (show Th w w1 by rw [hw1]; exact (Th.refl w).alloc _)
  have z1 : w.heap.size < w1.heap.size := (Array.getElem?_eq_some_iff.1 o1).1
  clear hR h hA hX o1
  go_enter Tryz.func57, Tryz.ntmps57
  go_upto_region 1 with fail
  rw [← hw1]
  clear hw1
  go_wp2_with fail
  go_loopw [9] (fun i wr => ∃ k : Nat, k ≤ n ∧ i = .int .i64 k ∧ Mod X w1 wr ∧ Th w1 wr ∧ RoomV 2 X wr (.slice A n c) n) (fun i _ => n - (intOf i).toNat)
  case atStart => exact ⟨0, Nat.zero_le _, rfl, Mod.refl _ _, Th.refl _, HH.out⟩
  case round =>
    obtain ⟨k, hk, rfl, hM, hT, hroom⟩ := hrel
    have HTT := Lib.hid hT
    clear hT
    have HM := Lib.hid hM
    have HRM := Lib.hid hroom
    by_cases hlt : k < n
    · obtain ⟨A', c', e', _, _, h4⟩ := hroom
      simp only [Value.slice.injEq, true_and] at e'
      obtain ⟨eA, ec⟩ := e'
      subst eA
      subst ec
      rcases h4 with h4 | ⟨b, off, hA, hXb, hb, hth⟩
      · omega
      subst hA
      have hle : k * 2 + 2 ≤ c * 2 := by omega
      have hth2 : wr.there b (off + k * 2) 2 := fun j hj => by
        have := hth (k * 2 + j) (by omega)
        rwa [← Nat.add_assoc] at this
      have ob : wr.heap[w.heap.size]? = some (.cells #[.string s.name, .int .i64 s.n] 110 (0, 0)) := (HM.out.block _ z1 nX).trans HO1.out
      have HTH := Lib.hid hth
      have HXB := Lib.hid hXb
      clear hM hth hXb
      obtain ⟨wn, hwn⟩ : ∃ W, W = wr.setCells b (off + k * 2) [.string s.name, .int .i64 s.n] := ⟨_, rfl⟩
      have HWN := Lib.hid hwn
      go_wp2_with (first | (refine wpList_load_row rfl 110 _ rfl w.heap.size rfl 110 #[.string s.name, .int .i64 s.n] (0, 0) _ ob Tryz.underlying110 rfl (by kernel_rfl) ?_) | (refine wpList_store_mid rfl 110 _ _ rfl b (off + k * 2) #[.string s.name, .int .i64 s.n] rfl rfl hth2 (by kernel_rfl) (by simp [Value.oneCell']) ?_; rw [← hwn]; clear hwn hth2 ob))
      go_roundw
      case rel =>
        rw [HWN.out]
        exact ⟨k + 1, by omega, by go_num, HM.out.trans (mod_setCells _ b _ _) (fun _ _ e => by rw [e]; exact HXB.out), HTT.out.setCells _ _ _, ⟨_, c, rfl, hnc, hcm, .inr ⟨b, off, rfl, HXB.out, by rw [size_setCells_]; exact hb, World.there_setCells HTH.out _ _ _⟩⟩⟩
      case measure => simp [intOf]; omega
    · obtain rfl : k = n := by omega
      clear hM hroom hlt hk
      go_wp2_with fail
      go_loopw [5, 6] (fun g i wr => ∃ q : Nat, q ≤ 80 ∧ i = .int .i64 q ∧ Mod X w1 wr ∧ Th w1 wr ∧ RoomV 2 (fun j => X j ∨ w1.heap.size ≤ j) wr g (k + q)) (fun _ i _ => 80 - (intOf i).toNat)
      case atStart => exact ⟨0, by omega, rfl, HM.out, HTT.out, HRM.out.move (fun _ _ _ => rfl) (fun _ h => .inl h) (Nat.le_refl _)⟩
      case round =>
        obtain ⟨q, hq, rfl, hM, hT, hroom⟩ := hrel
        have HM := Lib.hid hM
        have HTT := Lib.hid hT
        clear hM hT
        by_cases hlt : q < 80
        · obtain ⟨v1, w3, hrun, hr3, hm3, ht3⟩ := append_wild (P := Tryz.prog) 24 24 110 (.agg #[.string ⟨#[]⟩, .int .i64 0]) 24 Tryz.underlying24 infoItm rfl (fun j => X j ∨ w1.heap.size ≤ j) _ (k + q) hroom #[.string s.name, .int .i64 s.n] rfl (by simp [Value.oneCell']) (by omega) (by decide)
          obtain ⟨A', c', e', _, _, _⟩ := hroom
          subst e'
          have HR3 := Lib.hid hr3
          have HM3 := Lib.hid hm3
          have HT3 := Lib.hid (HTT.out.trans ht3)
          have HM4 := Lib.hid (HM.out.trans HM3.out (fun j hj h => h.elim id (fun h => by omega)))
          have ob : wr.heap[w.heap.size]? = some (.cells #[.string s.name, .int .i64 s.n] 110 (0, 0)) := (HM.out.block _ z1 nX).trans HO1.out
          clear hr3 hm3 ht3
          go_wp2_with (first | (refine wpList_load_row rfl 110 _ rfl w.heap.size rfl 110 #[.string s.name, .int .i64 s.n] (0, 0) _ ob Tryz.underlying110 rfl (by kernel_rfl) ?_) | (at_builtin; refine wpList_appendR rfl _ _ 24 rfl (.slice A' (k + q) c') (.slice (some ⟨wr.heap.size, 0, none⟩) 1 1) v1 rfl rfl hrun ?_; clear hrun ob))
          refine ⟨⟨q + 1, by omega, by go_num, HM4.out, HT3.out, HR3.out.move (fun _ _ _ => rfl) (fun j h => h.elim id (fun h => .inr (Nat.le_trans HM.out.size h))) (Nat.le_refl _)⟩, ?_⟩
          simp [intOf]; omega
        · have hv := HR.out wr (((Mod.of_below HB1.out).mono (T := X) (fun _ _ h => h.elim)).trans HM.out (fun _ _ h => h)) (HT1.out.trans HTT.out)
          obtain ⟨A', c', e', _, _, _⟩ := hroom
          subst e'
          have e80 : ¬ ((q : Int) < 80) := by omega
          clear hq
          go_wp2_with fail
          go_end0
          exact hv
set_option maxRecDepth 100000 in
set_option maxHeartbeats 8000000 in
theorem wipeO_k (R : Ending → World → Prop) (w : World) (X : Nat → Prop) (v : Value) (n : Nat) (h : RoomV 4 X w v n) (hX : ∀ k, X k → k < w.heap.size) (hl : n ≤ 1073741824) (s : Tol)
    (hR : ∀ w', Mod X w w' → Th w w' → R (.returned (.tuple #[])) w') :
    Calls Tryz.prog 58 #[v, .agg #[.string s.key, .string s.op, .string s.val, .string s.eff]] w R := by
  have h0 := h
  obtain ⟨A, c, rfl, hnc, hcm, hA⟩ := h0
  have HR := Lib.hid hR
  have HXX := Lib.hid hX
  obtain ⟨w1, hw1⟩ : ∃ w1, w1 = w.alloc (.cells #[.string s.key, .string s.op, .string s.val, .string s.eff] 123) := ⟨_, rfl⟩
  have HB1 := Lib.hid (show Below w.heap.size w w1 by rw [hw1]; exact Below.alloc (Below.refl _ _) (Nat.le_refl _) _)
  have o1 : w1.heap[w.heap.size]? = some (.cells #[.string s.key, .string s.op, .string s.val, .string s.eff] 123 (0, 0)) := by rw [hw1]; exact heap_alloc_new w _
  have HO1 := Lib.hid o1
  have nX : ¬ X (w.heap.size) := fun e => by have := HXX.out _ e; omega
  have HH := Lib.hid (h.move (Y := X) (fun k hk hl => HB1.out.block k hl) (fun _ h => h) HB1.out.size)
  have HT1 := Lib.hid (show Th w w1 by rw [hw1]; exact (Th.refl w).alloc _)
  have z1 : w.heap.size < w1.heap.size := (Array.getElem?_eq_some_iff.1 o1).1
  clear hR h hA hX o1
  go_enter Tryz.func58, Tryz.ntmps58
  go_upto_region 1 with fail
  rw [← hw1]
  clear hw1
  go_wp2_with fail
  go_loopw [9] (fun i wr => ∃ k : Nat, k ≤ n ∧ i = .int .i64 k ∧ Mod X w1 wr ∧ Th w1 wr ∧ RoomV 4 X wr (.slice A n c) n) (fun i _ => n - (intOf i).toNat)
  case atStart => exact ⟨0, Nat.zero_le _, rfl, Mod.refl _ _, Th.refl _, HH.out⟩
  case round =>
    obtain ⟨k, hk, rfl, hM, hT, hroom⟩ := hrel
    have HTT := Lib.hid hT
    clear hT
    have HM := Lib.hid hM
    have HRM := Lib.hid hroom
    by_cases hlt : k < n
    · obtain ⟨A', c', e', _, _, h4⟩ := hroom
      simp only [Value.slice.injEq, true_and] at e'
      obtain ⟨eA, ec⟩ := e'
      subst eA
      subst ec
      rcases h4 with h4 | ⟨b, off, hA, hXb, hb, hth⟩
      · omega
      subst hA
      have hle : k * 4 + 4 ≤ c * 4 := by omega
      have hth2 : wr.there b (off + k * 4) 4 := fun j hj => by
        have := hth (k * 4 + j) (by omega)
        rwa [← Nat.add_assoc] at this
      have ob : wr.heap[w.heap.size]? = some (.cells #[.string s.key, .string s.op, .string s.val, .string s.eff] 123 (0, 0)) := (HM.out.block _ z1 nX).trans HO1.out
      have HTH := Lib.hid hth
      have HXB := Lib.hid hXb
      clear hM hth hXb
      obtain ⟨wn, hwn⟩ : ∃ W, W = wr.setCells b (off + k * 4) [.string s.key, .string s.op, .string s.val, .string s.eff] := ⟨_, rfl⟩
      have HWN := Lib.hid hwn
      go_wp2_with (first | (refine wpList_load_row rfl 123 _ rfl w.heap.size rfl 123 #[.string s.key, .string s.op, .string s.val, .string s.eff] (0, 0) _ ob Tryz.underlying123 rfl (by kernel_rfl) ?_) | (refine wpList_store_mid rfl 123 _ _ rfl b (off + k * 4) #[.string s.key, .string s.op, .string s.val, .string s.eff] rfl rfl hth2 (by kernel_rfl) (by simp [Value.oneCell']) ?_; rw [← hwn]; clear hwn hth2 ob))
      go_roundw
      case rel =>
        rw [HWN.out]
        exact ⟨k + 1, by omega, by go_num, HM.out.trans (mod_setCells _ b _ _) (fun _ _ e => by rw [e]; exact HXB.out), HTT.out.setCells _ _ _, ⟨_, c, rfl, hnc, hcm, .inr ⟨b, off, rfl, HXB.out, by rw [size_setCells_]; exact hb, World.there_setCells HTH.out _ _ _⟩⟩⟩
      case measure => simp [intOf]; omega
    · obtain rfl : k = n := by omega
      clear hM hroom hlt hk
      go_wp2_with fail
      go_loopw [5, 6] (fun g i wr => ∃ q : Nat, q ≤ 80 ∧ i = .int .i64 q ∧ Mod X w1 wr ∧ Th w1 wr ∧ RoomV 4 (fun j => X j ∨ w1.heap.size ≤ j) wr g (k + q)) (fun _ i _ => 80 - (intOf i).toNat)
      case atStart => exact ⟨0, by omega, rfl, HM.out, HTT.out, HRM.out.move (fun _ _ _ => rfl) (fun _ h => .inl h) (Nat.le_refl _)⟩
      case round =>
        obtain ⟨q, hq, rfl, hM, hT, hroom⟩ := hrel
        have HM := Lib.hid hM
        have HTT := Lib.hid hT
        clear hM hT
        by_cases hlt : q < 80
        · obtain ⟨v1, w3, hrun, hr3, hm3, ht3⟩ := append_wild (P := Tryz.prog) 27 27 123 (.agg #[.string ⟨#[]⟩, .string ⟨#[]⟩, .string ⟨#[]⟩, .string ⟨#[]⟩]) 64 Tryz.underlying27 infoTol rfl (fun j => X j ∨ w1.heap.size ≤ j) _ (k + q) hroom #[.string s.key, .string s.op, .string s.val, .string s.eff] rfl (by simp [Value.oneCell']) (by omega) (by decide)
          obtain ⟨A', c', e', _, _, _⟩ := hroom
          subst e'
          have HR3 := Lib.hid hr3
          have HM3 := Lib.hid hm3
          have HT3 := Lib.hid (HTT.out.trans ht3)
          have HM4 := Lib.hid (HM.out.trans HM3.out (fun j hj h => h.elim id (fun h => by omega)))
          have ob : wr.heap[w.heap.size]? = some (.cells #[.string s.key, .string s.op, .string s.val, .string s.eff] 123 (0, 0)) := (HM.out.block _ z1 nX).trans HO1.out
          clear hr3 hm3 ht3
          go_wp2_with (first | (refine wpList_load_row rfl 123 _ rfl w.heap.size rfl 123 #[.string s.key, .string s.op, .string s.val, .string s.eff] (0, 0) _ ob Tryz.underlying123 rfl (by kernel_rfl) ?_) | (at_builtin; refine wpList_appendR rfl _ _ 27 rfl (.slice A' (k + q) c') (.slice (some ⟨wr.heap.size, 0, none⟩) 1 1) v1 rfl rfl hrun ?_; clear hrun ob))
          refine ⟨⟨q + 1, by omega, by go_num, HM4.out, HT3.out, HR3.out.move (fun _ _ _ => rfl) (fun j h => h.elim id (fun h => .inr (Nat.le_trans HM.out.size h))) (Nat.le_refl _)⟩, ?_⟩
          simp [intOf]; omega
        · have hv := HR.out wr (((Mod.of_below HB1.out).mono (T := X) (fun _ _ h => h.elim)).trans HM.out (fun _ _ h => h)) (HT1.out.trans HTT.out)
          obtain ⟨A', c', e', _, _, _⟩ := hroom
          subst e'
          have e80 : ¬ ((q : Int) < 80) := by omega
          clear hq
          go_wp2_with fail
          go_end0
          exact hv
set_option maxRecDepth 100000 in
set_option maxHeartbeats 8000000 in
theorem wipeA_k (R : Ending → World → Prop) (w : World) (X : Nat → Prop) (v : Value) (n : Nat) (h : RoomV 2 X w v n) (hX : ∀ k, X k → k < w.heap.size) (hl : n ≤ 1073741824) (s : Apt)
    (hR : ∀ w', Mod X w w' → Th w w' → R (.returned (.tuple #[])) w') :
    Calls Tryz.prog 59 #[v, .agg #[.string s.topo, .string s.sel]] w R := by
  have h0 := h
  obtain ⟨A, c, rfl, hnc, hcm, hA⟩ := h0
  have HR := Lib.hid hR
  have HXX := Lib.hid hX
  obtain ⟨w1, hw1⟩ : ∃ w1, w1 = w.alloc (.cells #[.string s.topo, .string s.sel] 126) := ⟨_, rfl⟩
  have HB1 := Lib.hid (show Below w.heap.size w w1 by rw [hw1]; exact Below.alloc (Below.refl _ _) (Nat.le_refl _) _)
  have o1 : w1.heap[w.heap.size]? = some (.cells #[.string s.topo, .string s.sel] 126 (0, 0)) := by rw [hw1]; exact heap_alloc_new w _
  have HO1 := Lib.hid o1
  have nX : ¬ X (w.heap.size) := fun e => by have := HXX.out _ e; omega
  have HH := Lib.hid (h.move (Y := X) (fun k hk hl => HB1.out.block k hl) (fun _ h => h) HB1.out.size)
  have HT1 := Lib.hid (show Th w w1 by rw [hw1]; exact (Th.refl w).alloc _)
  have z1 : w.heap.size < w1.heap.size := (Array.getElem?_eq_some_iff.1 o1).1
  clear hR h hA hX o1
  go_enter Tryz.func59, Tryz.ntmps59
  go_upto_region 1 with fail
  rw [← hw1]
  clear hw1
  go_wp2_with fail
  go_loopw [9] (fun i wr => ∃ k : Nat, k ≤ n ∧ i = .int .i64 k ∧ Mod X w1 wr ∧ Th w1 wr ∧ RoomV 2 X wr (.slice A n c) n) (fun i _ => n - (intOf i).toNat)
  case atStart => exact ⟨0, Nat.zero_le _, rfl, Mod.refl _ _, Th.refl _, HH.out⟩
  case round =>
    obtain ⟨k, hk, rfl, hM, hT, hroom⟩ := hrel
    have HTT := Lib.hid hT
    clear hT
    have HM := Lib.hid hM
    have HRM := Lib.hid hroom
    by_cases hlt : k < n
    · obtain ⟨A', c', e', _, _, h4⟩ := hroom
      simp only [Value.slice.injEq, true_and] at e'
      obtain ⟨eA, ec⟩ := e'
      subst eA
      subst ec
      rcases h4 with h4 | ⟨b, off, hA, hXb, hb, hth⟩
      · omega
      subst hA
      have hle : k * 2 + 2 ≤ c * 2 := by omega
      have hth2 : wr.there b (off + k * 2) 2 := fun j hj => by
        have := hth (k * 2 + j) (by omega)
        rwa [← Nat.add_assoc] at this
      have ob : wr.heap[w.heap.size]? = some (.cells #[.string s.topo, .string s.sel] 126 (0, 0)) := (HM.out.block _ z1 nX).trans HO1.out
      have HTH := Lib.hid hth
      have HXB := Lib.hid hXb
      clear hM hth hXb
      obtain ⟨wn, hwn⟩ : ∃ W, W = wr.setCells b (off + k * 2) [.string s.topo, .string s.sel] := ⟨_, rfl⟩
      have HWN := Lib.hid hwn
      go_wp2_with (first | (refine wpList_load_row rfl 126 _ rfl w.heap.size rfl 126 #[.string s.topo, .string s.sel] (0, 0) _ ob Tryz.underlying126 rfl (by kernel_rfl) ?_) | (refine wpList_store_mid rfl 126 _ _ rfl b (off + k * 2) #[.string s.topo, .string s.sel] rfl rfl hth2 (by kernel_rfl) (by simp [Value.oneCell']) ?_; rw [← hwn]; clear hwn hth2 ob))
      go_roundw
      case rel =>
        rw [HWN.out]
        exact ⟨k + 1, by omega, by go_num, HM.out.trans (mod_setCells _ b _ _) (fun _ _ e => by rw [e]; exact HXB.out), HTT.out.setCells _ _ _, ⟨_, c, rfl, hnc, hcm, .inr ⟨b, off, rfl, HXB.out, by rw [size_setCells_]; exact hb, World.there_setCells HTH.out _ _ _⟩⟩⟩
      case measure => simp [intOf]; omega
    · obtain rfl : k = n := by omega
      clear hM hroom hlt hk
      go_wp2_with fail
      go_loopw [5, 6] (fun g i wr => ∃ q : Nat, q ≤ 80 ∧ i = .int .i64 q ∧ Mod X w1 wr ∧ Th w1 wr ∧ RoomV 2 (fun j => X j ∨ w1.heap.size ≤ j) wr g (k + q)) (fun _ i _ => 80 - (intOf i).toNat)
      case atStart => exact ⟨0, by omega, rfl, HM.out, HTT.out, HRM.out.move (fun _ _ _ => rfl) (fun _ h => .inl h) (Nat.le_refl _)⟩
      case round =>
        obtain ⟨q, hq, rfl, hM, hT, hroom⟩ := hrel
        have HM := Lib.hid hM
        have HTT := Lib.hid hT
        clear hM hT
        by_cases hlt : q < 80
        · obtain ⟨v1, w3, hrun, hr3, hm3, ht3⟩ := append_wild (P := Tryz.prog) 28 28 126 (.agg #[.string ⟨#[]⟩, .string ⟨#[]⟩]) 32 Tryz.underlying28 infoApt rfl (fun j => X j ∨ w1.heap.size ≤ j) _ (k + q) hroom #[.string s.topo, .string s.sel] rfl (by simp [Value.oneCell']) (by omega) (by decide)
          obtain ⟨A', c', e', _, _, _⟩ := hroom
          subst e'
          have HR3 := Lib.hid hr3
          have HM3 := Lib.hid hm3
          have HT3 := Lib.hid (HTT.out.trans ht3)
          have HM4 := Lib.hid (HM.out.trans HM3.out (fun j hj h => h.elim id (fun h => by omega)))
          have ob : wr.heap[w.heap.size]? = some (.cells #[.string s.topo, .string s.sel] 126 (0, 0)) := (HM.out.block _ z1 nX).trans HO1.out
          clear hr3 hm3 ht3
          go_wp2_with (first | (refine wpList_load_row rfl 126 _ rfl w.heap.size rfl 126 #[.string s.topo, .string s.sel] (0, 0) _ ob Tryz.underlying126 rfl (by kernel_rfl) ?_) | (at_builtin; refine wpList_appendR rfl _ _ 28 rfl (.slice A' (k + q) c') (.slice (some ⟨wr.heap.size, 0, none⟩) 1 1) v1 rfl rfl hrun ?_; clear hrun ob))
          refine ⟨⟨q + 1, by omega, by go_num, HM4.out, HT3.out, HR3.out.move (fun _ _ _ => rfl) (fun j h => h.elim id (fun h => .inr (Nat.le_trans HM.out.size h))) (Nat.le_refl _)⟩, ?_⟩
          simp [intOf]; omega
        · have hv := HR.out wr (((Mod.of_below HB1.out).mono (T := X) (fun _ _ h => h.elim)).trans HM.out (fun _ _ h => h)) (HT1.out.trans HTT.out)
          obtain ⟨A', c', e', _, _, _⟩ := hroom
          subst e'
          have e80 : ¬ ((q : Int) < 80) := by omega
          clear hq
          go_wp2_with fail
          go_end0
          exact hv
set_option maxRecDepth 100000 in
set_option maxHeartbeats 8000000 in
theorem wipeP_k (R : Ending → World → Prop) (w : World) (X : Nat → Prop) (v : Value) (n : Nat) (h : RoomV 2 X w v n) (hX : ∀ k, X k → k < w.heap.size) (hl : n ≤ 1073741824) (s : Prf)
    (hR : ∀ w', Mod X w w' → Th w w' → R (.returned (.tuple #[])) w') :
    Calls Tryz.prog 60 #[v, .agg #[.int .i64 s.weight, .string s.text]] w R := by
  have h0 := h
  obtain ⟨A, c, rfl, hnc, hcm, hA⟩ := h0
  have HR := Lib.hid hR
  have HXX := Lib.hid hX
  obtain ⟨w1, hw1⟩ : ∃ w1, w1 = w.alloc (.cells #[.int .i64 s.weight, .string s.text] 129) := ⟨_, rfl⟩
  have HB1 := Lib.hid (show Below w.heap.size w w1 by rw [hw1]; exact Below.alloc (Below.refl _ _) (Nat.le_refl _) _)
  have o1 : w1.heap[w.heap.size]? = some (.cells #[.int .i64 s.weight, .string s.text] 129 (0, 0)) := by rw [hw1]; exact heap_alloc_new w _
  have HO1 := Lib.hid o1
  have nX : ¬ X (w.heap.size) := fun e => by have := HXX.out _ e; omega
  have HH := Lib.hid (h.move (Y := X) (fun k hk hl => HB1.out.block k hl) (fun _ h => h) HB1.out.size)
  have HT1 := Lib.hid (show Th w w1 by rw [hw1]; exact (Th.refl w).alloc _)
  have z1 : w.heap.size < w1.heap.size := (Array.getElem?_eq_some_iff.1 o1).1
  clear hR h hA hX o1
  go_enter Tryz.func60, Tryz.ntmps60
  go_upto_region 1 with fail
  rw [← hw1]
  clear hw1
  go_wp2_with fail
  go_loopw [9] (fun i wr => ∃ k : Nat, k ≤ n ∧ i = .int .i64 k ∧ Mod X w1 wr ∧ Th w1 wr ∧ RoomV 2 X wr (.slice A n c) n) (fun i _ => n - (intOf i).toNat)
  case atStart => exact ⟨0, Nat.zero_le _, rfl, Mod.refl _ _, Th.refl _, HH.out⟩
  case round =>
    obtain ⟨k, hk, rfl, hM, hT, hroom⟩ := hrel
    have HTT := Lib.hid hT
    clear hT
    have HM := Lib.hid hM
    have HRM := Lib.hid hroom
    by_cases hlt : k < n
    · obtain ⟨A', c', e', _, _, h4⟩ := hroom
      simp only [Value.slice.injEq, true_and] at e'
      obtain ⟨eA, ec⟩ := e'
      subst eA
      subst ec
      rcases h4 with h4 | ⟨b, off, hA, hXb, hb, hth⟩
      · omega
      subst hA
      have hle : k * 2 + 2 ≤ c * 2 := by omega
      have hth2 : wr.there b (off + k * 2) 2 := fun j hj => by
        have := hth (k * 2 + j) (by omega)
        rwa [← Nat.add_assoc] at this
      have ob : wr.heap[w.heap.size]? = some (.cells #[.int .i64 s.weight, .string s.text] 129 (0, 0)) := (HM.out.block _ z1 nX).trans HO1.out
      have HTH := Lib.hid hth
      have HXB := Lib.hid hXb
      clear hM hth hXb
      obtain ⟨wn, hwn⟩ : ∃ W, W = wr.setCells b (off + k * 2) [.int .i64 s.weight, .string s.text] := ⟨_, rfl⟩
      have HWN := Lib.hid hwn
      go_wp2_with (first | (refine wpList_load_row rfl 129 _ rfl w.heap.size rfl 129 #[.int .i64 s.weight, .string s.text] (0, 0) _ ob Tryz.underlying129 rfl (by kernel_rfl) ?_) | (refine wpList_store_mid rfl 129 _ _ rfl b (off + k * 2) #[.int .i64 s.weight, .string s.text] rfl rfl hth2 (by kernel_rfl) (by simp [Value.oneCell']) ?_; rw [← hwn]; clear hwn hth2 ob))
      go_roundw
      case rel =>
        rw [HWN.out]
        exact ⟨k + 1, by omega, by go_num, HM.out.trans (mod_setCells _ b _ _) (fun _ _ e => by rw [e]; exact HXB.out), HTT.out.setCells _ _ _, ⟨_, c, rfl, hnc, hcm, .inr ⟨b, off, rfl, HXB.out, by rw [size_setCells_]; exact hb, World.there_setCells HTH.out _ _ _⟩⟩⟩
      case measure => simp [intOf]; omega
    · obtain rfl : k = n := by omega
      clear hM hroom hlt hk
      go_wp2_with fail
      go_loopw [5, 6] (fun g i wr => ∃ q : Nat, q ≤ 80 ∧ i = .int .i64 q ∧ Mod X w1 wr ∧ Th w1 wr ∧ RoomV 2 (fun j => X j ∨ w1.heap.size ≤ j) wr g (k + q)) (fun _ i _ => 80 - (intOf i).toNat)
      case atStart => exact ⟨0, by omega, rfl, HM.out, HTT.out, HRM.out.move (fun _ _ _ => rfl) (fun _ h => .inl h) (Nat.le_refl _)⟩
      case round =>
        obtain ⟨q, hq, rfl, hM, hT, hroom⟩ := hrel
        have HM := Lib.hid hM
        have HTT := Lib.hid hT
        clear hM hT
        by_cases hlt : q < 80
        · obtain ⟨v1, w3, hrun, hr3, hm3, ht3⟩ := append_wild (P := Tryz.prog) 29 29 129 (.agg #[.int .i64 0, .string ⟨#[]⟩]) 24 Tryz.underlying29 infoPrf rfl (fun j => X j ∨ w1.heap.size ≤ j) _ (k + q) hroom #[.int .i64 s.weight, .string s.text] rfl (by simp [Value.oneCell']) (by omega) (by decide)
          obtain ⟨A', c', e', _, _, _⟩ := hroom
          subst e'
          have HR3 := Lib.hid hr3
          have HM3 := Lib.hid hm3
          have HT3 := Lib.hid (HTT.out.trans ht3)
          have HM4 := Lib.hid (HM.out.trans HM3.out (fun j hj h => h.elim id (fun h => by omega)))
          have ob : wr.heap[w.heap.size]? = some (.cells #[.int .i64 s.weight, .string s.text] 129 (0, 0)) := (HM.out.block _ z1 nX).trans HO1.out
          clear hr3 hm3 ht3
          go_wp2_with (first | (refine wpList_load_row rfl 129 _ rfl w.heap.size rfl 129 #[.int .i64 s.weight, .string s.text] (0, 0) _ ob Tryz.underlying129 rfl (by kernel_rfl) ?_) | (at_builtin; refine wpList_appendR rfl _ _ 29 rfl (.slice A' (k + q) c') (.slice (some ⟨wr.heap.size, 0, none⟩) 1 1) v1 rfl rfl hrun ?_; clear hrun ob))
          refine ⟨⟨q + 1, by omega, by go_num, HM4.out, HT3.out, HR3.out.move (fun _ _ _ => rfl) (fun j h => h.elim id (fun h => .inr (Nat.le_trans HM.out.size h))) (Nat.le_refl _)⟩, ?_⟩
          simp [intOf]; omega
        · have hv := HR.out wr (((Mod.of_below HB1.out).mono (T := X) (fun _ _ h => h.elim)).trans HM.out (fun _ _ h => h)) (HT1.out.trans HTT.out)
          obtain ⟨A', c', e', _, _, _⟩ := hroom
          subst e'
          have e80 : ¬ ((q : Int) < 80) := by omega
          clear hq
          go_wp2_with fail
          go_end0
          exact hv
end Go.Proofs.YtdceflgemhcgcaaGreatDoor
