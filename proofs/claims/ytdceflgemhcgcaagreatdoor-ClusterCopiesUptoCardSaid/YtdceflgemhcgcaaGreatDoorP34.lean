/-
  slots.Table: Put of a new name, Len.
-/
import Derived.Test.YtdceflgemhcgcaaGreatDoorP33
set_option linter.unusedVariables false
set_option linter.unusedSimpArgs false
namespace Go.Proofs.YtdceflgemhcgcaaGreatDoor
open Go.RowKit Go.BigFrame

def freeT {α : Type} (T : Tab α) : Nat := T.low + ((T.rows.drop T.low).takeWhile (fun r => r.held)).length
def putT {α : Type} (T : Tab α) (name : ByteArray) (x : α) : Tab α := ⟨aset T.find name (freeT T), if freeT T = T.rows.length then T.rows ++ [⟨true, name, x⟩] else T.rows.set (freeT T) ⟨true, name, x⟩, freeT T + 1⟩
theorem free_at {α : Type} {T : Tab α} {k : Nat} (h1 : T.low ≤ k) (h2 : k ≤ T.rows.length) (h3 : ∀ j r, T.low ≤ j → j < k → T.rows[j]? = some r → r.held = true) (h4 : ∀ r, T.rows[k]? = some r → r.held = false) : freeT T = k := by
  obtain ⟨d, rfl⟩ : ∃ d, k = T.low + d := ⟨k - T.low, by omega⟩
  unfold freeT
  have : (T.rows.drop T.low).takeWhile (fun r => r.held) = (T.rows.drop T.low).take d := by
    have hl : d ≤ (T.rows.drop T.low).length := by rw [List.length_drop]; omega
    have hh : ∀ j r, j < d → (T.rows.drop T.low)[j]? = some r → r.held = true := fun j r hj hr => h3 (T.low + j) r (by omega) (by omega) (by rwa [List.getElem?_drop] at hr)
    have hn : ∀ r, (T.rows.drop T.low)[d]? = some r → r.held = false := fun r hr => h4 r (by rwa [List.getElem?_drop] at hr)
    generalize T.rows.drop T.low = l at hl hh hn
    clear h1 h2 h3 h4
    induction l generalizing d with
    | nil => simp
    | cons a l ih =>
      cases d with
      | zero =>
        have := hn a rfl
        simp [List.takeWhile, this]
      | succ d =>
        have h0 := hh 0 a (by omega) rfl
        rw [List.takeWhile_cons_of_pos h0, List.take_succ_cons, ih d (by simpa using hl) (fun j r hj hr => hh (j + 1) r (by omega) (by simpa using hr)) (fun r hr => hn r (by simpa using hr))]
  rw [this, List.length_take, List.length_drop]
  omega
theorem OwnK.wider {α : Type} {K : KRel α} {sz : Nat} {e : TypeId} {w : World} {B : Nat} {ok ok' : Nat → Prop} {v : Value} {xs : List α} (H : KOk K sz) (h : OwnK K sz e w B ok v xs) (hs : ∀ k, ok k → ok' k) (ho : ∀ k, ok' k → k < w.heap.size ∧ v.ownBlock ≠ some k) : OwnK K sz e w B ok' v xs := by
  obtain ⟨h0, css, hr, hl, hk⟩ := h
  exact ⟨ho, css, hr, hl, fun j x cs hx hc => H.mono (hk j x cs hx hc) hs⟩
theorem TabAt.wider {α : Type} {K : KRel α} {sz : Nat} {e tt : TypeId} {most : Int} {imm imm' : Nat → Prop} {w : World} {t m : Nat} {v : Value} {T : Tab α} (H : KOk K sz) (h : TabAt K sz e tt most imm w t m v T) (hs : ∀ k, imm k → imm' k) (ho : ∀ k, imm' k → k < w.heap.size ∧ v.ownBlock ≠ some k) : TabAt K sz e tt most imm' w t m v T :=
  ⟨h.cell, h.map, h.rows.wider (rowOk H) hs ho⟩
theorem OwnK.own_ty {α : Type} {K : KRel α} {sz : Nat} {e : TypeId} {w : World} {B : Nat} {ok : Nat → Prop} {v : Value} {xs : List α} (h : OwnK K sz e w B ok v xs) {j : Nat} (hj : v.ownBlock = some j) : ∃ cur, w.heap[j]? = some (.cells cur e (0, 0)) := by
  obtain ⟨h0, css, hr, hl, hk⟩ := h
  rcases hr.2 with ⟨rfl, _⟩ | ⟨g, cap, cur, rfl, hB, hg, _⟩
  · cases hj
  · cases hj; exact ⟨cur, hg⟩
theorem OwnK.form3 {α : Type} {K : KRel α} {sz : Nat} {e : TypeId} {w : World} {B : Nat} {ok : Nat → Prop} {v : Value} {xs : List α} (h : OwnK K sz e w B ok v xs) (hp : 0 < xs.length) : ∃ g c, v = .slice (some ⟨g, 0, none⟩) xs.length c ∧ xs.length ≤ c ∧ c ≤ maxLen := by
  obtain ⟨h0, css, hr, hl, hk⟩ := h
  rcases hr.2 with ⟨rfl, hn⟩ | ⟨g, cap, cur, rfl, hB, hg, hnc, hcm, _⟩
  · omega
  · exact ⟨g, cap, rfl, hnc, hcm⟩
theorem OwnK.ne_ty {α : Type} {K : KRel α} {sz : Nat} {e : TypeId} {w : World} {B : Nat} {ok : Nat → Prop} {v : Value} {xs : List α} (h : OwnK K sz e w B ok v xs) {t : Nat} {cs : Array Value} {T : TypeId} {fr : Nat × Nat} (ht : w.heap[t]? = some (.cells cs T fr)) (hT : T ≠ e) : some t ≠ v.ownBlock := fun hh => by
  obtain ⟨cur, hc⟩ := h.own_ty hh.symm
  rw [ht] at hc
  simp only [Option.some.injEq, Obj.cells.injEq] at hc
  exact hT hc.2.1
theorem OwnK.ne_map {α : Type} {K : KRel α} {sz : Nat} {e : TypeId} {w : World} {B : Nat} {ok : Nat → Prop} {v : Value} {xs : List α} (h : OwnK K sz e w B ok v xs) {m : Nat} {l : List (ByteArray × Value)} (hm : MapAt Value.string w m l) : some m ≠ v.ownBlock := fun hh => by
  obtain ⟨cur, hc⟩ := h.own_ty hh.symm
  exact hm.ne_cells hc rfl
theorem set_last {α : Type} (l : List α) (a b : α) : (l ++ [a]).set l.length b = l ++ [b] := by simp
theorem infoRowA : (Tryz.prog.info? 266).map (fun i => (i.zero, i.size, i.bytes)) = some (some (.agg #[.bool false, .string ⟨#[]⟩, .string ⟨#[]⟩, .slice none 0 0, .slice none 0 0, .slice none 0 0, .bool false]), 7, 120) := by kernel_rfl
theorem infoRowB : (Tryz.prog.info? 269).map (fun i => (i.zero, i.size, i.bytes)) = some (some (.agg #[.bool false, .string ⟨#[]⟩, .string ⟨#[]⟩, .slice none 0 0, .slice none 0 0, .slice none 0 0, .string ⟨#[]⟩, .slice none 0 0, .slice none 0 0, .int .i64 0, .string ⟨#[]⟩]), 11, 200) := by kernel_rfl
theorem nodK_zero (w : World) (ok : Nat → Prop) : nodK w ok nod0 [.string ⟨#[]⟩, .slice none 0 0, .slice none 0 0, .slice none 0 0, .bool false] := ⟨_, _, _, rfl, SlK.nil, SlK.nil, SlK.nil⟩
theorem plcK_zero (w : World) (ok : Nat → Prop) : plcK w ok plc0 [.string ⟨#[]⟩, .slice none 0 0, .slice none 0 0, .slice none 0 0, .string ⟨#[]⟩, .slice none 0 0, .slice none 0 0, .int .i64 0, .string ⟨#[]⟩] := ⟨[.string ⟨#[]⟩, .slice none 0 0, .slice none 0 0, .slice none 0 0, .string ⟨#[]⟩, .slice none 0 0, .slice none 0 0, .int .i64 0], rfl, _, _, _, _, _, rfl, SlK.nil, SlK.nil, SlK.nil, SlK.nil, SlK.nil⟩
set_option maxRecDepth 100000 in
set_option maxHeartbeats 4000000 in
theorem lenB_k (R : Ending → World → Prop) (w : World) (imm : Nat → Prop) (t m : Nat) (v : Value) (T : Tab (Pd × ByteArray)) (hT : TabAt plcK 9 269 244 2048 imm w t m v T)
    (hR : R (.returned (.int .i64 (T.find.length : Int))) w) :
    Calls Tryz.prog 107 #[.pointer (some ⟨t, 0, none⟩)] w R := by
  have l1 := map_len (P := Tryz.prog) (ty := 3) hT.map Tryz.underlying238
  rw [length_findC] at l1
  have y1 : w.cell? ⟨t, 1, none⟩ = some (.map (some m)) := cell_at hT.cell rfl
  clear hT
  go_enter Tryz.func107, Tryz.ntmps107
  go_wp2_with fail
  exact hR
set_option maxRecDepth 100000 in
set_option maxHeartbeats 16000000 in
theorem putA_k (R : Ending → World → Prop) (w : World) (imm : Nat → Prop) (t m : Nat) (v : Value) (T : Tab Nod) (name : ByteArray) (hT : TabAt nodK 5 266 241 512 imm w t m v T) (h1 : 1 ≤ name.size) (h2 : name.size ≤ 63) (hf : aget T.find name = none) (hln : T.find.length < 512) (hlow : T.low ≤ T.rows.length) (hrl : T.rows.length ≤ 512) (hit : ¬ imm t) (him : ¬ imm m)
    (x : Nod) (cs : List Value) (hx : nodK w imm x cs)
    (hR : ∀ v' w', Mod (fun k => k = t ∨ k = m ∨ v.ownBlock = some k) w w' → TabAt nodK 5 266 241 512 imm w' t m v' (putT T name x) → (v'.ownBlock = v.ownBlock ∨ ∃ b, v'.ownBlock = some b ∧ w.heap.size ≤ b) → R (.returned (.tuple #[.int .i64 (freeT T : Int), .int .i64 0])) w') :
    Calls Tryz.prog 105 #[.pointer (some ⟨t, 0, none⟩), .string name, .agg cs.toArray] w R := by
  obtain ⟨vl, vt, vc, rfl, hl1, hl2, hl3⟩ := hx
  obtain ⟨Al, dl, rfl, _, _⟩ := hl1.form
  obtain ⟨At, dt, rfl, _, _⟩ := hl2.form
  obtain ⟨Ac, dc, rfl, _, _⟩ := hl3.form
  have HR := Lib.hid hR
  have HT := Lib.hid hT
  have HX := Lib.hid (show nodK w imm x [.string x.name, .slice Al x.labels.length dl, .slice At x.taints.length dt, .slice Ac x.cap.length dc, .bool x.cord] from ⟨_, _, _, rfl, hl1, hl2, hl3⟩)
  clear hR hT hl1 hl2 hl3
  obtain ⟨Av, cv, ev, hcv⟩ := HT.out.rows.slice
  subst ev
  obtain ⟨w1, hw1⟩ : ∃ w1, w1 = w.alloc (.cells #[.string x.name, .slice Al x.labels.length dl, .slice At x.taints.length dt, .slice Ac x.cap.length dc, .bool x.cord] 26) := ⟨_, rfl⟩
  have HB1 := Lib.hid (show Below w.heap.size w w1 by rw [hw1]; exact Below.alloc (Below.refl _ _) (Nat.le_refl _) _)
  have bx : w1.heap[w.heap.size]? = some (.cells #[.string x.name, .slice Al x.labels.length dl, .slice At x.taints.length dt, .slice Ac x.cap.length dc, .bool x.cord] 26 (0, 0)) := by rw [hw1]; exact heap_alloc_new w _
  have HBX := Lib.hid bx
  have HT1 := Lib.hid (HT.out.below nodOk HB1.out)
  clear bx
  go_enter Tryz.func105, Tryz.ntmps105
  go_upto_region 1 with fail
  rw [← hw1]
  clear hw1
  go_wp2_with fail
  refine lookA_k _ _ imm t m _ T name HT1.out h1 h2 ?_
  rw [show lookR T.find name = (0, 54) by unfold lookR; rw [hf]]
  clear hf h1 h2
  have y0 : w1.cell? ⟨t, 0, none⟩ = some (.int .i64 512) := cell_at HT1.out.cell rfl
  have y1 : w1.cell? ⟨t, 1, none⟩ = some (.map (some m)) := cell_at HT1.out.cell rfl
  have l1 := map_len (P := Tryz.prog) (ty := 3) (w := w1.drew) (HT1.out.map.move (w' := w1.drew) rfl) Tryz.underlying238
  rw [length_findC] at l1
  have HGL := Lib.hid (show decide ((512 : Int) ≤ (T.find.length : Int)) = false from decide_eq_false (by omega))
  go_upto_region 6 with fail
  go_cut [24] (fun u W => u = .bool false ∧ W.heap = w1.heap ∧ Below w1.heap.size w1 W)
  case first =>
    go_region
    go_wp2_with fail
    go_meet
    exact ⟨congrArg Value.bool HGL.out, rfl, (Below.refl _ _).drew⟩
  obtain ⟨rfl, hW, hBc⟩ := hcut
  rename World => w6
  have HW := Lib.hid hW
  have HB6 := Lib.hid hBc
  have HT6 := Lib.hid (HT1.out.below nodOk HB6.out)
  have HBX6 := Lib.hid ((HB6.out.block w.heap.size (Array.getElem?_eq_some_iff.1 HBX.out).1).trans HBX.out)
  clear hW hBc y0 y1 l1
  have y2 : w6.cell? ⟨t, 2, none⟩ = some (.slice Av T.rows.length cv) := cell_at HT6.out.cell rfl
  have y3 : w6.cell? ⟨t, 3, none⟩ = some (.int .i64 (T.low : Int)) := cell_at HT6.out.cell rfl
  have M6 := Lib.hid (show (∀ j, imm j → w6.heap[j]? = w.heap[j]?) ∧ Below w.heap.size w w6 from ⟨fun j hj => (HB1.out.trans (HB6.out.mono HB1.out.size)).block j (HT.out.imm_lt hj), HB1.out.trans (HB6.out.mono HB1.out.size)⟩)
  go_wp2_with fail
  go_loopw [10] (fun u W => ∃ k : Nat, T.low ≤ k ∧ k ≤ T.rows.length ∧ u = .int .i64 (k : Int) ∧ W = w6 ∧ ∀ j r, T.low ≤ j → j < k → T.rows[j]? = some r → r.held = true) (fun u _ => T.rows.length - (intOf u).toNat)
  case atStart => exact ⟨T.low, Nat.le_refl _, hlow, rfl, rfl, fun j r h1 h2 => by omega⟩
  case round =>
    obtain ⟨k, hk1, hk, rfl, rfl, hz⟩ := hrel
    have HZ := Lib.hid hz
    clear hz
    by_cases hlt : k < T.rows.length
    · obtain ⟨r, hr⟩ : ∃ r, T.rows[k]? = some r := ⟨_, List.getElem?_eq_getElem hlt⟩
      obtain ⟨g, c, cs, ev, hlc, hcm, hgl, hk', hcl, hra, hh, hn⟩ := HT6.out.range nodOk hr
      simp only [Value.slice.injEq] at ev
      obtain ⟨ev, -, ec⟩ := ev
      subst ev
      subst ec
      have HRr := Lib.hid hr
      clear hr hk' hcl hra hn
      cases hhd : r.held with
      | true =>
        rw [hhd] at hh
        have HHD := Lib.hid hhd
        have hw : IntKind.i64.wrap ((k : Int) + 1) = (k : Int) + 1 := by rw [IntKind.wrap_i64]; omega
        clear hhd
        go_wp2_with fail
        go_roundw
        case rel => exact ⟨k + 1, by omega, by omega, by go_num, by first | rfl | trivial, fun j r' h1 h2 h3 => by
          by_cases hjk : j < k
          · exact HZ.out j r' h1 hjk h3
          · obtain rfl : j = k := by omega
            rw [HRr.out] at h3
            cases h3
            exact HHD.out⟩
        case measure => simp [intOf]; omega
      | false =>
        rw [hhd] at hh
        have HHD := Lib.hid hhd
        have HFR := Lib.hid (free_at hk1 hk HZ.out (fun r' h => by rw [HRr.out] at h; cases h; exact HHD.out))
        have HEQ := Lib.hid (show ¬ k = T.rows.length by omega)
        have hne : ¬ (k : Int) = (T.rows.length : Int) := by omega
        have hlk : (k : Int) < (T.rows.length : Int) := by omega
        clear hhd
        have ntg : ¬ t = g := fun e => HT6.out.rows.ne_ty HT6.out.cell (by decide) (by rw [e]; rfl)
        have nbg : ¬ w.heap.size = g := fun e => HT6.out.rows.ne_ty HBX6.out (by decide) (by rw [e]; rfl)
        have nmg : ¬ m = g := fun e => HT6.out.rows.ne_map HT6.out.map (by rw [e]; rfl)
        have bx := HBX6.out
        have HMP := Lib.hid HT6.out.map
        have MW := Lib.hid (show (∀ j, imm j → wr.heap[j]? = w.heap[j]?) ∧ Mod (fun j => j = t ∨ j = m ∨ (Value.slice (some ⟨g, 0, none⟩) T.rows.length cv).ownBlock = some j) w wr from ⟨M6.out.1, (Mod.of_below M6.out.2).mono (fun _ _ h => h.elim)⟩)
        have OW := Lib.hid (show OwnK (rowK nodK) 7 266 wr.drew 0 imm (.slice (some ⟨g, 0, none⟩) T.rows.length cv) T.rows from HT6.out.rows.move (rowOk nodOk) (fun _ _ _ => rfl) (Nat.le_refl _))
        have HG := Lib.hid (show ∀ j, j < w.heap.size → j = g → (Value.slice (some ⟨g, 0, none⟩) T.rows.length cv).ownBlock = some j from fun j _ e => by rw [e]; rfl)
        have HOWN := Lib.hid (show (Value.slice (some ⟨g, 0, none⟩) T.rows.length cv).ownBlock = (Value.slice (some ⟨g, 0, none⟩) T.rows.length cv).ownBlock ∨ ∃ b, (Value.slice (some ⟨g, 0, none⟩) T.rows.length cv).ownBlock = some b ∧ w.heap.size ≤ b from .inl rfl)
        have tc := HT6.out.cell
        have y2 : wr.cell? ⟨t, 2, none⟩ = some (.slice (some ⟨g, 0, none⟩) T.rows.length cv) := cell_at tc rfl
        have GA := Lib.hid (show ∀ V, Mod (fun j => j = g) wr V → Mod (fun j => j = g) wr V ∧ V.cell? ⟨t, 2, none⟩ = some (.slice (some ⟨g, 0, none⟩) T.rows.length cv) ∧ V.rangeAt w.heap.size 0 [.string x.name, .slice Al x.labels.length dl, .slice At x.taints.length dt, .slice Ac x.cap.length dc, .bool x.cord] from fun V hV => ⟨hV, hV.cell' y2 ntg, by
          have h := World.rangeAt_of_block ((hV.block w.heap.size (Array.getElem?_eq_some_iff.1 bx).1 nbg).trans bx) 0 5
          simpa using h⟩)
        have HTC := Lib.hid tc
        go_upto_region 13 with fail
        clear y2 tc
        try clear hh
        refine wp_region_held_drew (S := fun V => Mod (fun j => j = g) wr V ∧ V.cell? ⟨t, 2, none⟩ = some (.slice (some ⟨g, 0, none⟩) T.rows.length cv) ∧ V.rangeAt w.heap.size 0 [.string x.name, .slice Al x.labels.length dl, .slice At x.taints.length dt, .slice Ac x.cap.length dc, .bool x.cord]) (by kernel_rfl) (GA.out _ (Mod.refl _ _).drew) (fun hHeld => ?_)
        refine' wpAnyH_take (i := 0) (v := _) (List.getElem?_toArray.trans rfl) (by kernel_rfl) (by kernel_rfl) (by kernel_rfl) (fun _ _ _ h => h) (Or.inl ⟨by rfl, ?y0a⟩) hHeld ?r0a
        case y0a => intro w h; (try dsimp only at h); go_simp; (try with_reducible rfl)
        try simp only [Act.put, List.setIfInBounds_toArray, List.set_cons_zero, List.set_cons_succ]
        refine' wpAnyH_take (i := 1) (v := _) (List.getElem?_toArray.trans rfl) (by kernel_rfl) (by kernel_rfl) (by kernel_rfl) (fun _ _ _ h => h) (Or.inl ⟨by rfl, ?y1a⟩) hHeld ?r1a
        case y1a => intro w h; (try dsimp only at h); go_simp; (try with_reducible rfl)
        try simp only [Act.put, List.setIfInBounds_toArray, List.set_cons_zero, List.set_cons_succ]
        refine' wpAnyH_take (i := 2) (v := _) (List.getElem?_toArray.trans rfl) (by kernel_rfl) (by kernel_rfl) (by kernel_rfl) (fun _ _ _ h => h) (Or.inl ⟨by rfl, ?y2a⟩) hHeld ?r2a
        case y2a => intro w h; (try dsimp only at h); go_simp; (try with_reducible rfl)
        try simp only [Act.put, List.setIfInBounds_toArray, List.set_cons_zero, List.set_cons_succ]
        refine' wpAnyH_take (i := 3) (v := _) (List.getElem?_toArray.trans rfl) (by kernel_rfl) (by kernel_rfl) (by kernel_rfl) (fun _ _ _ h => h) (Or.inl ⟨by rfl, ?y3a⟩) hHeld ?r3a
        case y3a => intro w h; (try dsimp only at h); go_simp; (try with_reducible rfl)
        try simp only [Act.put, List.setIfInBounds_toArray, List.set_cons_zero, List.set_cons_succ]
        refine' wpAnyH_take (i := 4) (v := _) (List.getElem?_toArray.trans rfl) (by kernel_rfl) (by kernel_rfl) (by kernel_rfl) (fun _ _ _ h => h) (Or.inl ⟨by rfl, ?y4a⟩) hHeld ?r4a
        case y4a => intro w h; (try dsimp only at h); go_simp; (try with_reducible rfl)
        try simp only [Act.put, List.setIfInBounds_toArray, List.set_cons_zero, List.set_cons_succ]
        refine' wpAnyH_take (i := 5) (v := _) (List.getElem?_toArray.trans rfl) (by kernel_rfl) (by kernel_rfl) (by kernel_rfl) (fun _ _ _ h => h) (Or.inl ⟨by rfl, ?y5a⟩) hHeld ?r5a
        case y5a => intro w h; (try dsimp only at h); go_simp; (try with_reducible rfl)
        try simp only [Act.put, List.setIfInBounds_toArray, List.set_cons_zero, List.set_cons_succ]
        refine' wpAnyH_take (i := 6) (v := _) (List.getElem?_toArray.trans rfl) (by kernel_rfl) (by kernel_rfl) (by kernel_rfl) (fun _ _ _ h => h) (yieldsIf_load_mid (by rfl) 26 _ rfl w.heap.size 0 rfl [.string x.name, .slice Al x.labels.length dl, .slice At x.taints.length dt, .slice Ac x.cap.length dc, .bool x.cord] _ (fun V hV => hV.2.2) Tryz.underlying26 rfl (by kernel_rfl)) hHeld ?_
        try simp only [Act.put, List.setIfInBounds_toArray, List.set_cons_zero, List.set_cons_succ]
        refine' wpAnyH_take (i := 7) (v := _) (List.getElem?_toArray.trans rfl) (by kernel_rfl) (by kernel_rfl) (by kernel_rfl) (fun _ _ _ h => h) (Or.inl ⟨by rfl, ?y7a⟩) hHeld ?r7a
        case y7a => intro w h; (try dsimp only at h); go_simp; (try with_reducible rfl)
        try simp only [Act.put, List.setIfInBounds_toArray, List.set_cons_zero, List.set_cons_succ]
        refine' wpAnyH_take (i := 8) (v := _) (List.getElem?_toArray.trans rfl) (by kernel_rfl) (by kernel_rfl) (by kernel_rfl) (fun _ _ _ h => h) (Or.inl ⟨by rfl, ?y8a⟩) hHeld ?r8a
        case y8a => intro w h; (try dsimp only at h); go_simp; (try with_reducible rfl)
        try simp only [Act.put, List.setIfInBounds_toArray, List.set_cons_zero, List.set_cons_succ]
        refine wpAnyH_ready (rs := [9]) (by kernel_rfl) (by simp) ?_
        refine AllReadyH.cons (List.getElem?_toArray.trans rfl) (fun K hK => ?_) AllReadyH.nil
        have hth : wr.drew.there g (k * 7) 7 := OW.out.there (by omega)
        refine wp_store_mid 266 _ _ rfl g (k * 7) #[.bool true, .string name, .string x.name, .slice Al x.labels.length dl, .slice At x.taints.length dt, .slice Ac x.cap.length dc, .bool x.cord] rfl rfl hth (by kernel_rfl) (by simp [Value.oneCell']) ?_
        obtain ⟨wm, hwm⟩ : ∃ wm, wm = wr.drew.setCells g (k * 7) [.bool true, .string name, .string x.name, .slice Al x.labels.length dl, .slice At x.taints.length dt, .slice Ac x.cap.length dc, .bool x.cord] := ⟨_, rfl⟩
        have MM := Lib.hid (show Mod (fun j => j = g) wr wm by rw [hwm]; exact (Mod.refl _ wr).drew.trans (mod_setCells wr.drew g _ _) (fun _ _ h => h))
        have OM := Lib.hid (show OwnK (rowK nodK) 7 266 wm 0 imm (.slice (some ⟨g, 0, none⟩) T.rows.length cv) (T.rows.set k ⟨true, name, x⟩) by
          rw [hwm]
          have h := OwnK.set (rowOk nodOk) (by decide) OW.out (j := k) (by omega) (y := (⟨true, name, x⟩ : SRow Nod)) (cs := [.bool true, .string name, .string x.name, .slice Al x.labels.length dl, .slice At x.taints.length dt, .slice Ac x.cap.length dc, .bool x.cord]) ⟨_, rfl, nodOk.move HX.out (fun j hj => MW.out.1 j hj)⟩
          exact h)
        change K _ (wr.drew.setCells g (k * 7) [.bool true, .string name, .string x.name, .slice Al x.labels.length dl, .slice At x.taints.length dt, .slice Ac x.cap.length dc, .bool x.cord])
        rw [← hwm]
        clear hwm hth
        refine hK.out _ _ (GA.out _ MM.out) (fun hHeld => ?_)
        clear hK K hHeld
        try simp only [Act.put, List.setIfInBounds_toArray, List.set_cons_zero, List.set_cons_succ]
        refine wpAnyH_done (by kernel_rfl) ?_ _
        have tc := (MM.out.block t (Array.getElem?_eq_some_iff.1 HTC.out).1 ntg).trans HTC.out
        have hmp := HMP.out.mod MM.out nmg
        obtain ⟨o, hmu, hm14⟩ := hmp.update strK Tryz.underlying238 name (.int .i64 (k : Int)) (P := Tryz.prog)
        rw [aset_findC] at hm14
        obtain ⟨wn, hwn⟩ : ∃ wn, wn = putObj wm m o := ⟨_, rfl⟩
        have ntm : ¬ t = m := hmp.ne_cells tc
        have MN := Lib.hid (show Mod (fun j => j = m) wm wn by rw [hwn]; exact putObj_mod _ _ _)
        rw [← hwn] at hmu hm14
        have tn := (MN.out.block t (Array.getElem?_eq_some_iff.1 tc).1 ntm).trans tc
        have HM14 := Lib.hid hm14
        have y1 : wm.cell? ⟨t, 1, none⟩ = some (.map (some m)) := cell_at tc rfl
        clear hwn hm14 hmp tc
        go_upto_region 15 with fail
        clear hmu y1
        have y3 : wn.cell? ⟨t, 3, none⟩ = some (.int .i64 (T.low : Int)) := cell_at tn rfl
        have f3 : wn.frozen? ⟨t, 3, none⟩ = false := frozen_at tn
        have hw : IntKind.i64.wrap ((k : Int) + 1) = (k : Int) + 1 := by rw [IntKind.wrap_i64]; omega
        have tz := heap_setCell_at (i := 3) (v := .int .i64 ((k : Int) + 1)) tn
        have MZ := Lib.hid (show Mod (fun j => j = t) wn (wn.setCell ⟨t, 3, none⟩ (.int .i64 ((k : Int) + 1))) from Mod.setCell (Mod.refl (fun j => j = t) wn) (p := ⟨t, 3, none⟩) (fun _ => rfl) _)
        have tz : (wn.setCell ⟨t, 3, none⟩ (.int .i64 ((k : Int) + 1))).heap[t]? = some (.cells #[.int .i64 512, .map (some m), .slice (some ⟨g, 0, none⟩) T.rows.length cv, .int .i64 ((k + 1 : Nat) : Int)] 241) := (heap_setCell_at tn).trans rfl
        have hpt : putT T name x = ⟨aset T.find name k, T.rows.set k ⟨true, name, x⟩, k + 1⟩ := by unfold putT; rw [HFR.out]; rw [if_neg HEQ.out]
        have hmw : Mod (fun j => j = t ∨ j = m ∨ (Value.slice (some ⟨g, 0, none⟩) T.rows.length cv).ownBlock = some j) w (wn.setCell ⟨t, 3, none⟩ (.int .i64 ((k : Int) + 1))) :=
          ((MW.out.2.trans MM.out (fun j hj e => .inr (.inr (HG.out j hj e)))).trans MN.out (fun j _ e => .inr (.inl e))).trans MZ.out (fun j _ e => .inl e)
        have hv := HR.out (.slice (some ⟨g, 0, none⟩) T.rows.length cv) _ hmw (by
          rw [hpt]
          refine ⟨tz, HM14.out.mod MZ.out (fun e => ntm e.symm), ?_⟩
          refine OM.out.move (rowOk nodOk) (fun j hj hh => ?_) (Nat.le_trans MN.out.size MZ.out.size)
          have hjt : ¬ j = t := fun e => by
            subst e
            rcases hh with hh | hh
            · exact hit hh
            · simp [Value.ownBlock] at hh; exact ntg hh.symm
          have hjm : ¬ j = m := fun e => by
            subst e
            rcases hh with hh | hh
            · exact him hh
            · simp [Value.ownBlock] at hh; exact nmg hh.symm
          exact (MZ.out.block j (Nat.lt_of_lt_of_le hj MN.out.size) hjt).trans (MN.out.block j hj hjm)) HOWN.out
        rw [HFR.out] at hv
        clear hmw hpt tz tn
        go_wp2_with fail
        exact hv
    · obtain rfl : k = T.rows.length := by omega
      have HFR := Lib.hid (free_at hk1 (Nat.le_refl _) HZ.out (fun r h => by rw [List.getElem?_eq_none (Nat.le_refl _)] at h; cases h))
      have f2 : wr.frozen? ⟨t, 2, none⟩ = false := frozen_at HT6.out.cell
      go_wp2_with (at_builtin; refine append_k (rowOk nodOk) rfl _ _ 239 266 (.agg #[.bool false, .string ⟨#[]⟩, .string ⟨#[]⟩, .slice none 0 0, .slice none 0 0, .slice none 0 0, .bool false]) 120 0 imm rfl Tryz.underlying239 infoRowA rfl (by decide) (by decide) (Value.slice Av T.rows.length cv) T.rows (⟨false, ⟨#[]⟩, nod0⟩ : SRow Nod) #[.bool false, .string ⟨#[]⟩, .string ⟨#[]⟩, .slice none 0 0, .slice none 0 0, .slice none 0 0, .bool false] rfl rfl ?c1 HT6.out.rows ⟨_, rfl, nodK_zero _ _⟩ (Nat.zero_le _) ?c3 ?_)
      case c1 => simp [Value.oneCell']
      case c3 => omega
      intro v7 w7 hO7 hg7 hat
      obtain ⟨g, c7, e7, h7, h7m⟩ := hO7.form3 (by simp)
      rw [List.length_append, List.length_singleton] at e7 h7
      subst e7
      have kb : ∀ j, j < wr.heap.size → some j ≠ (Value.slice Av T.rows.length cv).ownBlock → w7.heap[j]? = wr.heap[j]? := fun j h1 h2 => hg7.block j h1 h2
      have t7 := (kb t (Array.getElem?_eq_some_iff.1 HT6.out.cell).1 (HT6.out.rows.ne_ty HT6.out.cell (by decide))).trans HT6.out.cell
      have b7 := (kb w.heap.size (Array.getElem?_eq_some_iff.1 HBX6.out).1 (HT6.out.rows.ne_ty HBX6.out (by decide))).trans HBX6.out
      have m7 := HT6.out.map.move (kb m HT6.out.map.lt (HT6.out.rows.ne_map HT6.out.map))
      have ntm : ¬ t = m := m7.ne_cells t7
      have ntb : ¬ t = w.heap.size := fun e => by have := (Array.getElem?_eq_some_iff.1 HT.out.cell).1; omega
      have ntg : ¬ t = g := fun e => hO7.ne_ty t7 (by decide) (by rw [e]; rfl)
      have nbg : ¬ w.heap.size = g := fun e => hO7.ne_ty b7 (by decide) (by rw [e]; rfl)
      have nmg : ¬ m = g := fun e => hO7.ne_map m7 (by rw [e]; rfl)
      obtain ⟨w8, hw8⟩ : ∃ w8, w8 = w7.setCell ⟨t, 2, none⟩ (Value.slice (some ⟨g, 0, none⟩) (T.rows.length + 1) c7) := ⟨_, rfl⟩
      have k8 : ∀ j, ¬ j = t → w8.heap[j]? = w7.heap[j]? := fun j h => by rw [hw8]; exact Below.heap_setCell _ _ _ _ h
      have tc : w8.heap[t]? = some (.cells #[.int .i64 512, .map (some m), (Value.slice (some ⟨g, 0, none⟩) (T.rows.length + 1) c7), .int .i64 (T.low : Int)] 241) := by rw [hw8]; exact (heap_setCell_at t7).trans rfl
      have bx := (k8 w.heap.size (fun e => ntb e.symm)).trans b7
      have HMP := Lib.hid (m7.move (k8 m (fun e => ntm e.symm)))
      have M78 : Mod (fun j => j = t) w7 w8 := by rw [hw8]; exact Mod.setCell (Mod.refl (fun j => j = t) w7) (p := ⟨t, 2, none⟩) (fun _ => rfl) _
      have M67 : Mod (fun j => (Value.slice Av T.rows.length cv).ownBlock = some j) wr w7 := ⟨hg7.os, hg7.tape, hg7.output, hg7.size, fun j h1 h2 => hg7.block j h1 (fun e => h2 e.symm)⟩
      have M06 : Mod Non w wr := Mod.of_below M6.out.2
      have MW := Lib.hid (show (∀ j, imm j → w8.heap[j]? = w.heap[j]?) ∧ Mod (fun j => j = t ∨ j = m ∨ (Value.slice Av T.rows.length cv).ownBlock = some j) w w8 from
        ⟨fun j hj => (k8 j (fun e => hit (e ▸ hj))).trans ((kb j (HT6.out.imm_lt hj) (fun e => (HT6.out.rows.1 j hj).2 e.symm)).trans (M6.out.1 j hj)),
         ((M06.mono (T := fun j => (Value.slice Av T.rows.length cv).ownBlock = some j) (fun _ _ h => h.elim)).trans M67 (fun _ _ h => h)).mono (T := fun j => j = t ∨ j = m ∨ (Value.slice Av T.rows.length cv).ownBlock = some j) (fun _ _ h => .inr (.inr h)) |>.trans M78 (fun j _ h => .inl h)⟩)
      have OW := Lib.hid (show OwnK (rowK nodK) 7 266 w8.drew 0 imm (Value.slice (some ⟨g, 0, none⟩) (T.rows.length + 1) c7) (T.rows ++ [(⟨false, ⟨#[]⟩, nod0⟩ : SRow Nod)]) from hO7.move (rowOk nodOk) (fun j _ hh => k8 j (fun e => by
        subst e
        rcases hh with hh | hh
        · exact hit hh
        · simp [Value.ownBlock] at hh; exact ntg hh.symm)) M78.size)
      have HG := Lib.hid (show ∀ j, j < w.heap.size → j = g → (Value.slice Av T.rows.length cv).ownBlock = some j from fun j hj e => by
        subst e
        rcases hat with hat | ⟨b, hb, hbl⟩
        · rw [← hat]; rfl
        · simp [Value.ownBlock] at hb; have := M06.size; omega)
      have HOWN := Lib.hid (show (Value.slice (some ⟨g, 0, none⟩) (T.rows.length + 1) c7).ownBlock = (Value.slice Av T.rows.length cv).ownBlock ∨ ∃ b, (Value.slice (some ⟨g, 0, none⟩) (T.rows.length + 1) c7).ownBlock = some b ∧ w.heap.size ≤ b from hat.imp id (fun ⟨b, hb, hbl⟩ => ⟨b, hb, Nat.le_trans M06.size hbl⟩))
      have hlen2 : (T.rows ++ [(⟨false, ⟨#[]⟩, nod0⟩ : SRow Nod)]).length = T.rows.length + 1 := by simp
      have y7 : w7.cell? ⟨t, 2, none⟩ = some (Value.slice Av T.rows.length cv) := cell_at t7 rfl
      have f7 : w7.frozen? ⟨t, 2, none⟩ = false := frozen_at t7
      have t7o := t7
      go_upto_region 13 with fail
      rw [← hw8]
      clear hw8 hO7 hg7 hat k8 kb M78 M67 M06 y7 f7 t7 b7 m7 t7o y2 y3 f2 ntm
      have y2 : w8.cell? ⟨t, 2, none⟩ = some (.slice (some ⟨g, 0, none⟩) (T.rows.length + 1) c7) := cell_at tc rfl
      have GA := Lib.hid (show ∀ V, Mod (fun j => j = g) w8 V → Mod (fun j => j = g) w8 V ∧ V.cell? ⟨t, 2, none⟩ = some (.slice (some ⟨g, 0, none⟩) (T.rows.length + 1) c7) ∧ V.rangeAt w.heap.size 0 [.string x.name, .slice Al x.labels.length dl, .slice At x.taints.length dt, .slice Ac x.cap.length dc, .bool x.cord] from fun V hV => ⟨hV, hV.cell' y2 ntg, by
        have h := World.rangeAt_of_block ((hV.block w.heap.size (Array.getElem?_eq_some_iff.1 bx).1 nbg).trans bx) 0 5
        simpa using h⟩)
      have HTC := Lib.hid tc
      go_upto_region 13 with fail
      clear y2 tc
      try clear hh
      refine wp_region_held_drew (S := fun V => Mod (fun j => j = g) w8 V ∧ V.cell? ⟨t, 2, none⟩ = some (.slice (some ⟨g, 0, none⟩) (T.rows.length + 1) c7) ∧ V.rangeAt w.heap.size 0 [.string x.name, .slice Al x.labels.length dl, .slice At x.taints.length dt, .slice Ac x.cap.length dc, .bool x.cord]) (by kernel_rfl) (GA.out _ (Mod.refl _ _).drew) (fun hHeld => ?_)
      refine' wpAnyH_take (i := 0) (v := _) (List.getElem?_toArray.trans rfl) (by kernel_rfl) (by kernel_rfl) (by kernel_rfl) (fun _ _ _ h => h) (Or.inl ⟨by rfl, ?y0b⟩) hHeld ?r0b
      case y0b => intro w h; (try dsimp only at h); go_simp; (try with_reducible rfl)
      try simp only [Act.put, List.setIfInBounds_toArray, List.set_cons_zero, List.set_cons_succ]
      refine' wpAnyH_take (i := 1) (v := _) (List.getElem?_toArray.trans rfl) (by kernel_rfl) (by kernel_rfl) (by kernel_rfl) (fun _ _ _ h => h) (Or.inl ⟨by rfl, ?y1b⟩) hHeld ?r1b
      case y1b => intro w h; (try dsimp only at h); go_simp; (try with_reducible rfl)
      try simp only [Act.put, List.setIfInBounds_toArray, List.set_cons_zero, List.set_cons_succ]
      refine' wpAnyH_take (i := 2) (v := _) (List.getElem?_toArray.trans rfl) (by kernel_rfl) (by kernel_rfl) (by kernel_rfl) (fun _ _ _ h => h) (Or.inl ⟨by rfl, ?y2b⟩) hHeld ?r2b
      case y2b => intro w h; (try dsimp only at h); go_simp; (try with_reducible rfl)
      try simp only [Act.put, List.setIfInBounds_toArray, List.set_cons_zero, List.set_cons_succ]
      refine' wpAnyH_take (i := 3) (v := _) (List.getElem?_toArray.trans rfl) (by kernel_rfl) (by kernel_rfl) (by kernel_rfl) (fun _ _ _ h => h) (Or.inl ⟨by rfl, ?y3b⟩) hHeld ?r3b
      case y3b => intro w h; (try dsimp only at h); go_simp; (try with_reducible rfl)
      try simp only [Act.put, List.setIfInBounds_toArray, List.set_cons_zero, List.set_cons_succ]
      refine' wpAnyH_take (i := 4) (v := _) (List.getElem?_toArray.trans rfl) (by kernel_rfl) (by kernel_rfl) (by kernel_rfl) (fun _ _ _ h => h) (Or.inl ⟨by rfl, ?y4b⟩) hHeld ?r4b
      case y4b => intro w h; (try dsimp only at h); go_simp; (try with_reducible rfl)
      try simp only [Act.put, List.setIfInBounds_toArray, List.set_cons_zero, List.set_cons_succ]
      refine' wpAnyH_take (i := 5) (v := _) (List.getElem?_toArray.trans rfl) (by kernel_rfl) (by kernel_rfl) (by kernel_rfl) (fun _ _ _ h => h) (Or.inl ⟨by rfl, ?y5b⟩) hHeld ?r5b
      case y5b => intro w h; (try dsimp only at h); go_simp; (try with_reducible rfl)
      try simp only [Act.put, List.setIfInBounds_toArray, List.set_cons_zero, List.set_cons_succ]
      refine' wpAnyH_take (i := 6) (v := _) (List.getElem?_toArray.trans rfl) (by kernel_rfl) (by kernel_rfl) (by kernel_rfl) (fun _ _ _ h => h) (yieldsIf_load_mid (by rfl) 26 _ rfl w.heap.size 0 rfl [.string x.name, .slice Al x.labels.length dl, .slice At x.taints.length dt, .slice Ac x.cap.length dc, .bool x.cord] _ (fun V hV => hV.2.2) Tryz.underlying26 rfl (by kernel_rfl)) hHeld ?_
      try simp only [Act.put, List.setIfInBounds_toArray, List.set_cons_zero, List.set_cons_succ]
      refine' wpAnyH_take (i := 7) (v := _) (List.getElem?_toArray.trans rfl) (by kernel_rfl) (by kernel_rfl) (by kernel_rfl) (fun _ _ _ h => h) (Or.inl ⟨by rfl, ?y7b⟩) hHeld ?r7b
      case y7b => intro w h; (try dsimp only at h); go_simp; (try with_reducible rfl)
      try simp only [Act.put, List.setIfInBounds_toArray, List.set_cons_zero, List.set_cons_succ]
      refine' wpAnyH_take (i := 8) (v := _) (List.getElem?_toArray.trans rfl) (by kernel_rfl) (by kernel_rfl) (by kernel_rfl) (fun _ _ _ h => h) (Or.inl ⟨by rfl, ?y8b⟩) hHeld ?r8b
      case y8b => intro w h; (try dsimp only at h); go_simp; rw [if_pos (show (T.rows.length : Int) < (T.rows.length : Int) + 1 by omega)]; (try with_reducible rfl)
      try simp only [Act.put, List.setIfInBounds_toArray, List.set_cons_zero, List.set_cons_succ]
      refine wpAnyH_ready (rs := [9]) (by kernel_rfl) (by simp) ?_
      refine AllReadyH.cons (List.getElem?_toArray.trans rfl) (fun K hK => ?_) AllReadyH.nil
      have hth : w8.drew.there g (T.rows.length * 7) 7 := OW.out.there (by omega)
      refine wp_store_mid 266 _ _ rfl g (T.rows.length * 7) #[.bool true, .string name, .string x.name, .slice Al x.labels.length dl, .slice At x.taints.length dt, .slice Ac x.cap.length dc, .bool x.cord] rfl rfl hth (by kernel_rfl) (by simp [Value.oneCell']) ?_
      obtain ⟨wm, hwm⟩ : ∃ wm, wm = w8.drew.setCells g (T.rows.length * 7) [.bool true, .string name, .string x.name, .slice Al x.labels.length dl, .slice At x.taints.length dt, .slice Ac x.cap.length dc, .bool x.cord] := ⟨_, rfl⟩
      have MM := Lib.hid (show Mod (fun j => j = g) w8 wm by rw [hwm]; exact (Mod.refl _ w8).drew.trans (mod_setCells w8.drew g _ _) (fun _ _ h => h))
      have OM := Lib.hid (show OwnK (rowK nodK) 7 266 wm 0 imm (.slice (some ⟨g, 0, none⟩) (T.rows.length + 1) c7) ((T.rows ++ [(⟨false, ⟨#[]⟩, nod0⟩ : SRow Nod)]).set T.rows.length ⟨true, name, x⟩) by
        rw [hwm]
        have h := OwnK.set (rowOk nodOk) (by decide) OW.out (j := T.rows.length) (by omega) (y := (⟨true, name, x⟩ : SRow Nod)) (cs := [.bool true, .string name, .string x.name, .slice Al x.labels.length dl, .slice At x.taints.length dt, .slice Ac x.cap.length dc, .bool x.cord]) ⟨_, rfl, nodOk.move HX.out (fun j hj => MW.out.1 j hj)⟩
        exact h)
      change K _ (w8.drew.setCells g (T.rows.length * 7) [.bool true, .string name, .string x.name, .slice Al x.labels.length dl, .slice At x.taints.length dt, .slice Ac x.cap.length dc, .bool x.cord])
      rw [← hwm]
      clear hwm hth
      refine hK.out _ _ (GA.out _ MM.out) (fun hHeld => ?_)
      clear hK K hHeld
      try simp only [Act.put, List.setIfInBounds_toArray, List.set_cons_zero, List.set_cons_succ]
      refine wpAnyH_done (by kernel_rfl) ?_ _
      have tc := (MM.out.block t (Array.getElem?_eq_some_iff.1 HTC.out).1 ntg).trans HTC.out
      have hmp := HMP.out.mod MM.out nmg
      obtain ⟨o, hmu, hm14⟩ := hmp.update strK Tryz.underlying238 name (.int .i64 (T.rows.length : Int)) (P := Tryz.prog)
      rw [aset_findC] at hm14
      obtain ⟨wn, hwn⟩ : ∃ wn, wn = putObj wm m o := ⟨_, rfl⟩
      have ntm : ¬ t = m := hmp.ne_cells tc
      have MN := Lib.hid (show Mod (fun j => j = m) wm wn by rw [hwn]; exact putObj_mod _ _ _)
      rw [← hwn] at hmu hm14
      have tn := (MN.out.block t (Array.getElem?_eq_some_iff.1 tc).1 ntm).trans tc
      have HM14 := Lib.hid hm14
      have y1 : wm.cell? ⟨t, 1, none⟩ = some (.map (some m)) := cell_at tc rfl
      clear hwn hm14 hmp tc
      go_upto_region 15 with fail
      clear hmu y1
      have y3 : wn.cell? ⟨t, 3, none⟩ = some (.int .i64 (T.low : Int)) := cell_at tn rfl
      have f3 : wn.frozen? ⟨t, 3, none⟩ = false := frozen_at tn
      have hw : IntKind.i64.wrap ((T.rows.length : Int) + 1) = (T.rows.length : Int) + 1 := by rw [IntKind.wrap_i64]; omega
      have tz := heap_setCell_at (i := 3) (v := .int .i64 ((T.rows.length : Int) + 1)) tn
      have MZ := Lib.hid (show Mod (fun j => j = t) wn (wn.setCell ⟨t, 3, none⟩ (.int .i64 ((T.rows.length : Int) + 1))) from Mod.setCell (Mod.refl (fun j => j = t) wn) (p := ⟨t, 3, none⟩) (fun _ => rfl) _)
      have tz : (wn.setCell ⟨t, 3, none⟩ (.int .i64 ((T.rows.length : Int) + 1))).heap[t]? = some (.cells #[.int .i64 512, .map (some m), .slice (some ⟨g, 0, none⟩) (T.rows.length + 1) c7, .int .i64 ((T.rows.length + 1 : Nat) : Int)] 241) := (heap_setCell_at tn).trans rfl
      have hpt : putT T name x = ⟨aset T.find name T.rows.length, ((T.rows ++ [(⟨false, ⟨#[]⟩, nod0⟩ : SRow Nod)]).set T.rows.length ⟨true, name, x⟩), T.rows.length + 1⟩ := by unfold putT; rw [HFR.out]; rw [if_pos rfl, set_last]
      have hmw : Mod (fun j => j = t ∨ j = m ∨ (Value.slice Av T.rows.length cv).ownBlock = some j) w (wn.setCell ⟨t, 3, none⟩ (.int .i64 ((T.rows.length : Int) + 1))) :=
        ((MW.out.2.trans MM.out (fun j hj e => .inr (.inr (HG.out j hj e)))).trans MN.out (fun j _ e => .inr (.inl e))).trans MZ.out (fun j _ e => .inl e)
      have hv := HR.out (.slice (some ⟨g, 0, none⟩) (T.rows.length + 1) c7) _ hmw (by
        rw [hpt]
        refine ⟨tz, HM14.out.mod MZ.out (fun e => ntm e.symm), ?_⟩
        refine OM.out.move (rowOk nodOk) (fun j hj hh => ?_) (Nat.le_trans MN.out.size MZ.out.size)
        have hjt : ¬ j = t := fun e => by
          subst e
          rcases hh with hh | hh
          · exact hit hh
          · simp [Value.ownBlock] at hh; exact ntg hh.symm
        have hjm : ¬ j = m := fun e => by
          subst e
          rcases hh with hh | hh
          · exact him hh
          · simp [Value.ownBlock] at hh; exact nmg hh.symm
        exact (MZ.out.block j (Nat.lt_of_lt_of_le hj MN.out.size) hjt).trans (MN.out.block j hj hjm)) HOWN.out
      rw [HFR.out] at hv
      clear hmw hpt tz tn
      go_wp2_with fail
      exact hv
set_option maxRecDepth 100000 in
set_option maxHeartbeats 16000000 in
theorem putB_k (R : Ending → World → Prop) (w : World) (imm : Nat → Prop) (t m : Nat) (v : Value) (T : Tab (Pd × ByteArray)) (name : ByteArray) (hT : TabAt plcK 9 269 244 2048 imm w t m v T) (h1 : 1 ≤ name.size) (h2 : name.size ≤ 63) (hf : aget T.find name = none) (hln : T.find.length < 2048) (hlow : T.low ≤ T.rows.length) (hrl : T.rows.length ≤ 2048) (hit : ¬ imm t) (him : ¬ imm m)
    (x : (Pd × ByteArray)) (cs : List Value) (hx : plcK w imm x cs)
    (hR : ∀ v' w', Mod (fun k => k = t ∨ k = m ∨ v.ownBlock = some k) w w' → TabAt plcK 9 269 244 2048 imm w' t m v' (putT T name x) → (v'.ownBlock = v.ownBlock ∨ ∃ b, v'.ownBlock = some b ∧ w.heap.size ≤ b) → R (.returned (.tuple #[.int .i64 (freeT T : Int), .int .i64 0])) w') :
    Calls Tryz.prog 110 #[.pointer (some ⟨t, 0, none⟩), .string name, .agg cs.toArray] w R := by
  obtain ⟨c9, rfl, vl, vc, vt, va, vp, rfl, hl1, hl2, hl3, hl4, hl5⟩ := hx
  obtain ⟨Al, dl, rfl, _, _⟩ := hl1.form
  obtain ⟨Ac, dc, rfl, _, _⟩ := hl2.form
  obtain ⟨At, dt, rfl, _, _⟩ := hl3.form
  obtain ⟨Aa, da, rfl, _, _⟩ := hl4.form
  obtain ⟨Ap, dp, rfl, _, _⟩ := hl5.form
  have HR := Lib.hid hR
  have HT := Lib.hid hT
  have HX := Lib.hid (show plcK w imm x [.string x.1.name, .slice Al x.1.labels.length dl, .slice Ac x.1.needs.length dc, .slice At x.1.tols.length dt, .string x.1.req, .slice Aa x.1.apart.length da, .slice Ap x.1.prefer.length dp, .int .i64 x.1.prio, .string x.2] from ⟨_, rfl, _, _, _, _, _, rfl, hl1, hl2, hl3, hl4, hl5⟩)
  clear hR hT hl1 hl2 hl3 hl4 hl5
  obtain ⟨Av, cv, ev, hcv⟩ := HT.out.rows.slice
  subst ev
  obtain ⟨w1, hw1⟩ : ∃ w1, w1 = w.alloc (.cells #[.string x.1.name, .slice Al x.1.labels.length dl, .slice Ac x.1.needs.length dc, .slice At x.1.tols.length dt, .string x.1.req, .slice Aa x.1.apart.length da, .slice Ap x.1.prefer.length dp, .int .i64 x.1.prio, .string x.2] 176) := ⟨_, rfl⟩
  have HB1 := Lib.hid (show Below w.heap.size w w1 by rw [hw1]; exact Below.alloc (Below.refl _ _) (Nat.le_refl _) _)
  have bx : w1.heap[w.heap.size]? = some (.cells #[.string x.1.name, .slice Al x.1.labels.length dl, .slice Ac x.1.needs.length dc, .slice At x.1.tols.length dt, .string x.1.req, .slice Aa x.1.apart.length da, .slice Ap x.1.prefer.length dp, .int .i64 x.1.prio, .string x.2] 176 (0, 0)) := by rw [hw1]; exact heap_alloc_new w _
  have HBX := Lib.hid bx
  have HT1 := Lib.hid (HT.out.below plcOk HB1.out)
  clear bx
  go_enter Tryz.func110, Tryz.ntmps110
  go_upto_region 1 with fail
  rw [← hw1]
  clear hw1
  go_wp2_with fail
  refine lookB_k _ _ imm t m _ T name HT1.out h1 h2 ?_
  rw [show lookR T.find name = (0, 54) by unfold lookR; rw [hf]]
  clear hf h1 h2
  have y0 : w1.cell? ⟨t, 0, none⟩ = some (.int .i64 2048) := cell_at HT1.out.cell rfl
  have y1 : w1.cell? ⟨t, 1, none⟩ = some (.map (some m)) := cell_at HT1.out.cell rfl
  have l1 := map_len (P := Tryz.prog) (ty := 3) (w := w1.drew) (HT1.out.map.move (w' := w1.drew) rfl) Tryz.underlying238
  rw [length_findC] at l1
  have HGL := Lib.hid (show decide ((2048 : Int) ≤ (T.find.length : Int)) = false from decide_eq_false (by omega))
  go_upto_region 6 with fail
  go_cut [24] (fun u W => u = .bool false ∧ W.heap = w1.heap ∧ Below w1.heap.size w1 W)
  case first =>
    go_region
    go_wp2_with fail
    go_meet
    exact ⟨congrArg Value.bool HGL.out, rfl, (Below.refl _ _).drew⟩
  obtain ⟨rfl, hW, hBc⟩ := hcut
  rename World => w6
  have HW := Lib.hid hW
  have HB6 := Lib.hid hBc
  have HT6 := Lib.hid (HT1.out.below plcOk HB6.out)
  have HBX6 := Lib.hid ((HB6.out.block w.heap.size (Array.getElem?_eq_some_iff.1 HBX.out).1).trans HBX.out)
  clear hW hBc y0 y1 l1
  have y2 : w6.cell? ⟨t, 2, none⟩ = some (.slice Av T.rows.length cv) := cell_at HT6.out.cell rfl
  have y3 : w6.cell? ⟨t, 3, none⟩ = some (.int .i64 (T.low : Int)) := cell_at HT6.out.cell rfl
  have M6 := Lib.hid (show (∀ j, imm j → w6.heap[j]? = w.heap[j]?) ∧ Below w.heap.size w w6 from ⟨fun j hj => (HB1.out.trans (HB6.out.mono HB1.out.size)).block j (HT.out.imm_lt hj), HB1.out.trans (HB6.out.mono HB1.out.size)⟩)
  go_wp2_with fail
  go_loopw [10] (fun u W => ∃ k : Nat, T.low ≤ k ∧ k ≤ T.rows.length ∧ u = .int .i64 (k : Int) ∧ W = w6 ∧ ∀ j r, T.low ≤ j → j < k → T.rows[j]? = some r → r.held = true) (fun u _ => T.rows.length - (intOf u).toNat)
  case atStart => exact ⟨T.low, Nat.le_refl _, hlow, rfl, rfl, fun j r h1 h2 => by omega⟩
  case round =>
    obtain ⟨k, hk1, hk, rfl, rfl, hz⟩ := hrel
    have HZ := Lib.hid hz
    clear hz
    by_cases hlt : k < T.rows.length
    · obtain ⟨r, hr⟩ : ∃ r, T.rows[k]? = some r := ⟨_, List.getElem?_eq_getElem hlt⟩
      obtain ⟨g, c, cs, ev, hlc, hcm, hgl, hk', hcl, hra, hh, hn⟩ := HT6.out.range plcOk hr
      simp only [Value.slice.injEq] at ev
      obtain ⟨ev, -, ec⟩ := ev
      subst ev
      subst ec
      have HRr := Lib.hid hr
      clear hr hk' hcl hra hn
      cases hhd : r.held with
      | true =>
        rw [hhd] at hh
        have HHD := Lib.hid hhd
        have hw : IntKind.i64.wrap ((k : Int) + 1) = (k : Int) + 1 := by rw [IntKind.wrap_i64]; omega
        clear hhd
        go_wp2_with fail
        go_roundw
        case rel => exact ⟨k + 1, by omega, by omega, by go_num, by first | rfl | trivial, fun j r' h1 h2 h3 => by
          by_cases hjk : j < k
          · exact HZ.out j r' h1 hjk h3
          · obtain rfl : j = k := by omega
            rw [HRr.out] at h3
            cases h3
            exact HHD.out⟩
        case measure => simp [intOf]; omega
      | false =>
        rw [hhd] at hh
        have HHD := Lib.hid hhd
        have HFR := Lib.hid (free_at hk1 hk HZ.out (fun r' h => by rw [HRr.out] at h; cases h; exact HHD.out))
        have HEQ := Lib.hid (show ¬ k = T.rows.length by omega)
        have hne : ¬ (k : Int) = (T.rows.length : Int) := by omega
        have hlk : (k : Int) < (T.rows.length : Int) := by omega
        clear hhd
        have ntg : ¬ t = g := fun e => HT6.out.rows.ne_ty HT6.out.cell (by decide) (by rw [e]; rfl)
        have nbg : ¬ w.heap.size = g := fun e => HT6.out.rows.ne_ty HBX6.out (by decide) (by rw [e]; rfl)
        have nmg : ¬ m = g := fun e => HT6.out.rows.ne_map HT6.out.map (by rw [e]; rfl)
        have bx := HBX6.out
        have HMP := Lib.hid HT6.out.map
        have MW := Lib.hid (show (∀ j, imm j → wr.heap[j]? = w.heap[j]?) ∧ Mod (fun j => j = t ∨ j = m ∨ (Value.slice (some ⟨g, 0, none⟩) T.rows.length cv).ownBlock = some j) w wr from ⟨M6.out.1, (Mod.of_below M6.out.2).mono (fun _ _ h => h.elim)⟩)
        have OW := Lib.hid (show OwnK (rowK plcK) 11 269 wr.drew 0 imm (.slice (some ⟨g, 0, none⟩) T.rows.length cv) T.rows from HT6.out.rows.move (rowOk plcOk) (fun _ _ _ => rfl) (Nat.le_refl _))
        have HG := Lib.hid (show ∀ j, j < w.heap.size → j = g → (Value.slice (some ⟨g, 0, none⟩) T.rows.length cv).ownBlock = some j from fun j _ e => by rw [e]; rfl)
        have HOWN := Lib.hid (show (Value.slice (some ⟨g, 0, none⟩) T.rows.length cv).ownBlock = (Value.slice (some ⟨g, 0, none⟩) T.rows.length cv).ownBlock ∨ ∃ b, (Value.slice (some ⟨g, 0, none⟩) T.rows.length cv).ownBlock = some b ∧ w.heap.size ≤ b from .inl rfl)
        have tc := HT6.out.cell
        have y2 : wr.cell? ⟨t, 2, none⟩ = some (.slice (some ⟨g, 0, none⟩) T.rows.length cv) := cell_at tc rfl
        have GA := Lib.hid (show ∀ V, Mod (fun j => j = g) wr V → Mod (fun j => j = g) wr V ∧ V.cell? ⟨t, 2, none⟩ = some (.slice (some ⟨g, 0, none⟩) T.rows.length cv) ∧ V.rangeAt w.heap.size 0 [.string x.1.name, .slice Al x.1.labels.length dl, .slice Ac x.1.needs.length dc, .slice At x.1.tols.length dt, .string x.1.req, .slice Aa x.1.apart.length da, .slice Ap x.1.prefer.length dp, .int .i64 x.1.prio, .string x.2] from fun V hV => ⟨hV, hV.cell' y2 ntg, by
          have h := World.rangeAt_of_block ((hV.block w.heap.size (Array.getElem?_eq_some_iff.1 bx).1 nbg).trans bx) 0 9
          simpa using h⟩)
        have HTC := Lib.hid tc
        go_upto_region 13 with fail
        clear y2 tc
        try clear hh
        refine wp_region_held_drew (S := fun V => Mod (fun j => j = g) wr V ∧ V.cell? ⟨t, 2, none⟩ = some (.slice (some ⟨g, 0, none⟩) T.rows.length cv) ∧ V.rangeAt w.heap.size 0 [.string x.1.name, .slice Al x.1.labels.length dl, .slice Ac x.1.needs.length dc, .slice At x.1.tols.length dt, .string x.1.req, .slice Aa x.1.apart.length da, .slice Ap x.1.prefer.length dp, .int .i64 x.1.prio, .string x.2]) (by kernel_rfl) (GA.out _ (Mod.refl _ _).drew) (fun hHeld => ?_)
        refine' wpAnyH_take (i := 0) (v := _) (List.getElem?_toArray.trans rfl) (by kernel_rfl) (by kernel_rfl) (by kernel_rfl) (fun _ _ _ h => h) (Or.inl ⟨by rfl, ?y0a⟩) hHeld ?r0a
        case y0a => intro w h; (try dsimp only at h); go_simp; (try with_reducible rfl)
        try simp only [Act.put, List.setIfInBounds_toArray, List.set_cons_zero, List.set_cons_succ]
        refine' wpAnyH_take (i := 1) (v := _) (List.getElem?_toArray.trans rfl) (by kernel_rfl) (by kernel_rfl) (by kernel_rfl) (fun _ _ _ h => h) (Or.inl ⟨by rfl, ?y1a⟩) hHeld ?r1a
        case y1a => intro w h; (try dsimp only at h); go_simp; (try with_reducible rfl)
        try simp only [Act.put, List.setIfInBounds_toArray, List.set_cons_zero, List.set_cons_succ]
        refine' wpAnyH_take (i := 2) (v := _) (List.getElem?_toArray.trans rfl) (by kernel_rfl) (by kernel_rfl) (by kernel_rfl) (fun _ _ _ h => h) (Or.inl ⟨by rfl, ?y2a⟩) hHeld ?r2a
        case y2a => intro w h; (try dsimp only at h); go_simp; (try with_reducible rfl)
        try simp only [Act.put, List.setIfInBounds_toArray, List.set_cons_zero, List.set_cons_succ]
        refine' wpAnyH_take (i := 3) (v := _) (List.getElem?_toArray.trans rfl) (by kernel_rfl) (by kernel_rfl) (by kernel_rfl) (fun _ _ _ h => h) (Or.inl ⟨by rfl, ?y3a⟩) hHeld ?r3a
        case y3a => intro w h; (try dsimp only at h); go_simp; (try with_reducible rfl)
        try simp only [Act.put, List.setIfInBounds_toArray, List.set_cons_zero, List.set_cons_succ]
        refine' wpAnyH_take (i := 4) (v := _) (List.getElem?_toArray.trans rfl) (by kernel_rfl) (by kernel_rfl) (by kernel_rfl) (fun _ _ _ h => h) (Or.inl ⟨by rfl, ?y4a⟩) hHeld ?r4a
        case y4a => intro w h; (try dsimp only at h); go_simp; (try with_reducible rfl)
        try simp only [Act.put, List.setIfInBounds_toArray, List.set_cons_zero, List.set_cons_succ]
        refine' wpAnyH_take (i := 5) (v := _) (List.getElem?_toArray.trans rfl) (by kernel_rfl) (by kernel_rfl) (by kernel_rfl) (fun _ _ _ h => h) (Or.inl ⟨by rfl, ?y5a⟩) hHeld ?r5a
        case y5a => intro w h; (try dsimp only at h); go_simp; (try with_reducible rfl)
        try simp only [Act.put, List.setIfInBounds_toArray, List.set_cons_zero, List.set_cons_succ]
        refine' wpAnyH_take (i := 6) (v := _) (List.getElem?_toArray.trans rfl) (by kernel_rfl) (by kernel_rfl) (by kernel_rfl) (fun _ _ _ h => h) (yieldsIf_load_mid (by rfl) 176 _ rfl w.heap.size 0 rfl [.string x.1.name, .slice Al x.1.labels.length dl, .slice Ac x.1.needs.length dc, .slice At x.1.tols.length dt, .string x.1.req, .slice Aa x.1.apart.length da, .slice Ap x.1.prefer.length dp, .int .i64 x.1.prio, .string x.2] _ (fun V hV => hV.2.2) Tryz.underlying176 rfl (by kernel_rfl)) hHeld ?_
        try simp only [Act.put, List.setIfInBounds_toArray, List.set_cons_zero, List.set_cons_succ]
        refine' wpAnyH_take (i := 7) (v := _) (List.getElem?_toArray.trans rfl) (by kernel_rfl) (by kernel_rfl) (by kernel_rfl) (fun _ _ _ h => h) (Or.inl ⟨by rfl, ?y7a⟩) hHeld ?r7a
        case y7a => intro w h; (try dsimp only at h); go_simp; (try with_reducible rfl)
        try simp only [Act.put, List.setIfInBounds_toArray, List.set_cons_zero, List.set_cons_succ]
        refine' wpAnyH_take (i := 8) (v := _) (List.getElem?_toArray.trans rfl) (by kernel_rfl) (by kernel_rfl) (by kernel_rfl) (fun _ _ _ h => h) (Or.inl ⟨by rfl, ?y8a⟩) hHeld ?r8a
        case y8a => intro w h; (try dsimp only at h); go_simp; (try with_reducible rfl)
        try simp only [Act.put, List.setIfInBounds_toArray, List.set_cons_zero, List.set_cons_succ]
        refine wpAnyH_ready (rs := [9]) (by kernel_rfl) (by simp) ?_
        refine AllReadyH.cons (List.getElem?_toArray.trans rfl) (fun K hK => ?_) AllReadyH.nil
        have hth : wr.drew.there g (k * 11) 11 := OW.out.there (by omega)
        refine wp_store_mid 269 _ _ rfl g (k * 11) #[.bool true, .string name, .string x.1.name, .slice Al x.1.labels.length dl, .slice Ac x.1.needs.length dc, .slice At x.1.tols.length dt, .string x.1.req, .slice Aa x.1.apart.length da, .slice Ap x.1.prefer.length dp, .int .i64 x.1.prio, .string x.2] rfl rfl hth (by kernel_rfl) (by simp [Value.oneCell']) ?_
        obtain ⟨wm, hwm⟩ : ∃ wm, wm = wr.drew.setCells g (k * 11) [.bool true, .string name, .string x.1.name, .slice Al x.1.labels.length dl, .slice Ac x.1.needs.length dc, .slice At x.1.tols.length dt, .string x.1.req, .slice Aa x.1.apart.length da, .slice Ap x.1.prefer.length dp, .int .i64 x.1.prio, .string x.2] := ⟨_, rfl⟩
        have MM := Lib.hid (show Mod (fun j => j = g) wr wm by rw [hwm]; exact (Mod.refl _ wr).drew.trans (mod_setCells wr.drew g _ _) (fun _ _ h => h))
        have OM := Lib.hid (show OwnK (rowK plcK) 11 269 wm 0 imm (.slice (some ⟨g, 0, none⟩) T.rows.length cv) (T.rows.set k ⟨true, name, x⟩) by
          rw [hwm]
          have h := OwnK.set (rowOk plcOk) (by decide) OW.out (j := k) (by omega) (y := (⟨true, name, x⟩ : SRow (Pd × ByteArray))) (cs := [.bool true, .string name, .string x.1.name, .slice Al x.1.labels.length dl, .slice Ac x.1.needs.length dc, .slice At x.1.tols.length dt, .string x.1.req, .slice Aa x.1.apart.length da, .slice Ap x.1.prefer.length dp, .int .i64 x.1.prio, .string x.2]) ⟨_, rfl, plcOk.move HX.out (fun j hj => MW.out.1 j hj)⟩
          exact h)
        change K _ (wr.drew.setCells g (k * 11) [.bool true, .string name, .string x.1.name, .slice Al x.1.labels.length dl, .slice Ac x.1.needs.length dc, .slice At x.1.tols.length dt, .string x.1.req, .slice Aa x.1.apart.length da, .slice Ap x.1.prefer.length dp, .int .i64 x.1.prio, .string x.2])
        rw [← hwm]
        clear hwm hth
        refine hK.out _ _ (GA.out _ MM.out) (fun hHeld => ?_)
        clear hK K hHeld
        try simp only [Act.put, List.setIfInBounds_toArray, List.set_cons_zero, List.set_cons_succ]
        refine wpAnyH_done (by kernel_rfl) ?_ _
        have tc := (MM.out.block t (Array.getElem?_eq_some_iff.1 HTC.out).1 ntg).trans HTC.out
        have hmp := HMP.out.mod MM.out nmg
        obtain ⟨o, hmu, hm14⟩ := hmp.update strK Tryz.underlying238 name (.int .i64 (k : Int)) (P := Tryz.prog)
        rw [aset_findC] at hm14
        obtain ⟨wn, hwn⟩ : ∃ wn, wn = putObj wm m o := ⟨_, rfl⟩
        have ntm : ¬ t = m := hmp.ne_cells tc
        have MN := Lib.hid (show Mod (fun j => j = m) wm wn by rw [hwn]; exact putObj_mod _ _ _)
        rw [← hwn] at hmu hm14
        have tn := (MN.out.block t (Array.getElem?_eq_some_iff.1 tc).1 ntm).trans tc
        have HM14 := Lib.hid hm14
        have y1 : wm.cell? ⟨t, 1, none⟩ = some (.map (some m)) := cell_at tc rfl
        clear hwn hm14 hmp tc
        go_upto_region 15 with fail
        clear hmu y1
        have y3 : wn.cell? ⟨t, 3, none⟩ = some (.int .i64 (T.low : Int)) := cell_at tn rfl
        have f3 : wn.frozen? ⟨t, 3, none⟩ = false := frozen_at tn
        have hw : IntKind.i64.wrap ((k : Int) + 1) = (k : Int) + 1 := by rw [IntKind.wrap_i64]; omega
        have tz := heap_setCell_at (i := 3) (v := .int .i64 ((k : Int) + 1)) tn
        have MZ := Lib.hid (show Mod (fun j => j = t) wn (wn.setCell ⟨t, 3, none⟩ (.int .i64 ((k : Int) + 1))) from Mod.setCell (Mod.refl (fun j => j = t) wn) (p := ⟨t, 3, none⟩) (fun _ => rfl) _)
        have tz : (wn.setCell ⟨t, 3, none⟩ (.int .i64 ((k : Int) + 1))).heap[t]? = some (.cells #[.int .i64 2048, .map (some m), .slice (some ⟨g, 0, none⟩) T.rows.length cv, .int .i64 ((k + 1 : Nat) : Int)] 244) := (heap_setCell_at tn).trans rfl
        have hpt : putT T name x = ⟨aset T.find name k, T.rows.set k ⟨true, name, x⟩, k + 1⟩ := by unfold putT; rw [HFR.out]; rw [if_neg HEQ.out]
        have hmw : Mod (fun j => j = t ∨ j = m ∨ (Value.slice (some ⟨g, 0, none⟩) T.rows.length cv).ownBlock = some j) w (wn.setCell ⟨t, 3, none⟩ (.int .i64 ((k : Int) + 1))) :=
          ((MW.out.2.trans MM.out (fun j hj e => .inr (.inr (HG.out j hj e)))).trans MN.out (fun j _ e => .inr (.inl e))).trans MZ.out (fun j _ e => .inl e)
        have hv := HR.out (.slice (some ⟨g, 0, none⟩) T.rows.length cv) _ hmw (by
          rw [hpt]
          refine ⟨tz, HM14.out.mod MZ.out (fun e => ntm e.symm), ?_⟩
          refine OM.out.move (rowOk plcOk) (fun j hj hh => ?_) (Nat.le_trans MN.out.size MZ.out.size)
          have hjt : ¬ j = t := fun e => by
            subst e
            rcases hh with hh | hh
            · exact hit hh
            · simp [Value.ownBlock] at hh; exact ntg hh.symm
          have hjm : ¬ j = m := fun e => by
            subst e
            rcases hh with hh | hh
            · exact him hh
            · simp [Value.ownBlock] at hh; exact nmg hh.symm
          exact (MZ.out.block j (Nat.lt_of_lt_of_le hj MN.out.size) hjt).trans (MN.out.block j hj hjm)) HOWN.out
        rw [HFR.out] at hv
        clear hmw hpt tz tn
        go_wp2_with fail
        exact hv
    · obtain rfl : k = T.rows.length := by omega
      have HFR := Lib.hid (free_at hk1 (Nat.le_refl _) HZ.out (fun r h => by rw [List.getElem?_eq_none (Nat.le_refl _)] at h; cases h))
      have f2 : wr.frozen? ⟨t, 2, none⟩ = false := frozen_at HT6.out.cell
      go_wp2_with (at_builtin; refine append_k (rowOk plcOk) rfl _ _ 242 269 (.agg #[.bool false, .string ⟨#[]⟩, .string ⟨#[]⟩, .slice none 0 0, .slice none 0 0, .slice none 0 0, .string ⟨#[]⟩, .slice none 0 0, .slice none 0 0, .int .i64 0, .string ⟨#[]⟩]) 200 0 imm rfl Tryz.underlying242 infoRowB rfl (by decide) (by decide) (Value.slice Av T.rows.length cv) T.rows (⟨false, ⟨#[]⟩, plc0⟩ : SRow (Pd × ByteArray)) #[.bool false, .string ⟨#[]⟩, .string ⟨#[]⟩, .slice none 0 0, .slice none 0 0, .slice none 0 0, .string ⟨#[]⟩, .slice none 0 0, .slice none 0 0, .int .i64 0, .string ⟨#[]⟩] rfl rfl ?c1 HT6.out.rows ⟨_, rfl, plcK_zero _ _⟩ (Nat.zero_le _) ?c3 ?_)
      case c1 => simp [Value.oneCell']
      case c3 => omega
      intro v7 w7 hO7 hg7 hat
      obtain ⟨g, c7, e7, h7, h7m⟩ := hO7.form3 (by simp)
      rw [List.length_append, List.length_singleton] at e7 h7
      subst e7
      have kb : ∀ j, j < wr.heap.size → some j ≠ (Value.slice Av T.rows.length cv).ownBlock → w7.heap[j]? = wr.heap[j]? := fun j h1 h2 => hg7.block j h1 h2
      have t7 := (kb t (Array.getElem?_eq_some_iff.1 HT6.out.cell).1 (HT6.out.rows.ne_ty HT6.out.cell (by decide))).trans HT6.out.cell
      have b7 := (kb w.heap.size (Array.getElem?_eq_some_iff.1 HBX6.out).1 (HT6.out.rows.ne_ty HBX6.out (by decide))).trans HBX6.out
      have m7 := HT6.out.map.move (kb m HT6.out.map.lt (HT6.out.rows.ne_map HT6.out.map))
      have ntm : ¬ t = m := m7.ne_cells t7
      have ntb : ¬ t = w.heap.size := fun e => by have := (Array.getElem?_eq_some_iff.1 HT.out.cell).1; omega
      have ntg : ¬ t = g := fun e => hO7.ne_ty t7 (by decide) (by rw [e]; rfl)
      have nbg : ¬ w.heap.size = g := fun e => hO7.ne_ty b7 (by decide) (by rw [e]; rfl)
      have nmg : ¬ m = g := fun e => hO7.ne_map m7 (by rw [e]; rfl)
      obtain ⟨w8, hw8⟩ : ∃ w8, w8 = w7.setCell ⟨t, 2, none⟩ (Value.slice (some ⟨g, 0, none⟩) (T.rows.length + 1) c7) := ⟨_, rfl⟩
      have k8 : ∀ j, ¬ j = t → w8.heap[j]? = w7.heap[j]? := fun j h => by rw [hw8]; exact Below.heap_setCell _ _ _ _ h
      have tc : w8.heap[t]? = some (.cells #[.int .i64 2048, .map (some m), (Value.slice (some ⟨g, 0, none⟩) (T.rows.length + 1) c7), .int .i64 (T.low : Int)] 244) := by rw [hw8]; exact (heap_setCell_at t7).trans rfl
      have bx := (k8 w.heap.size (fun e => ntb e.symm)).trans b7
      have HMP := Lib.hid (m7.move (k8 m (fun e => ntm e.symm)))
      have M78 : Mod (fun j => j = t) w7 w8 := by rw [hw8]; exact Mod.setCell (Mod.refl (fun j => j = t) w7) (p := ⟨t, 2, none⟩) (fun _ => rfl) _
      have M67 : Mod (fun j => (Value.slice Av T.rows.length cv).ownBlock = some j) wr w7 := ⟨hg7.os, hg7.tape, hg7.output, hg7.size, fun j h1 h2 => hg7.block j h1 (fun e => h2 e.symm)⟩
      have M06 : Mod Non w wr := Mod.of_below M6.out.2
      have MW := Lib.hid (show (∀ j, imm j → w8.heap[j]? = w.heap[j]?) ∧ Mod (fun j => j = t ∨ j = m ∨ (Value.slice Av T.rows.length cv).ownBlock = some j) w w8 from
        ⟨fun j hj => (k8 j (fun e => hit (e ▸ hj))).trans ((kb j (HT6.out.imm_lt hj) (fun e => (HT6.out.rows.1 j hj).2 e.symm)).trans (M6.out.1 j hj)),
         ((M06.mono (T := fun j => (Value.slice Av T.rows.length cv).ownBlock = some j) (fun _ _ h => h.elim)).trans M67 (fun _ _ h => h)).mono (T := fun j => j = t ∨ j = m ∨ (Value.slice Av T.rows.length cv).ownBlock = some j) (fun _ _ h => .inr (.inr h)) |>.trans M78 (fun j _ h => .inl h)⟩)
      have OW := Lib.hid (show OwnK (rowK plcK) 11 269 w8.drew 0 imm (Value.slice (some ⟨g, 0, none⟩) (T.rows.length + 1) c7) (T.rows ++ [(⟨false, ⟨#[]⟩, plc0⟩ : SRow (Pd × ByteArray))]) from hO7.move (rowOk plcOk) (fun j _ hh => k8 j (fun e => by
        subst e
        rcases hh with hh | hh
        · exact hit hh
        · simp [Value.ownBlock] at hh; exact ntg hh.symm)) M78.size)
      have HG := Lib.hid (show ∀ j, j < w.heap.size → j = g → (Value.slice Av T.rows.length cv).ownBlock = some j from fun j hj e => by
        subst e
        rcases hat with hat | ⟨b, hb, hbl⟩
        · rw [← hat]; rfl
        · simp [Value.ownBlock] at hb; have := M06.size; omega)
      have HOWN := Lib.hid (show (Value.slice (some ⟨g, 0, none⟩) (T.rows.length + 1) c7).ownBlock = (Value.slice Av T.rows.length cv).ownBlock ∨ ∃ b, (Value.slice (some ⟨g, 0, none⟩) (T.rows.length + 1) c7).ownBlock = some b ∧ w.heap.size ≤ b from hat.imp id (fun ⟨b, hb, hbl⟩ => ⟨b, hb, Nat.le_trans M06.size hbl⟩))
      have hlen2 : (T.rows ++ [(⟨false, ⟨#[]⟩, plc0⟩ : SRow (Pd × ByteArray))]).length = T.rows.length + 1 := by simp
      have y7 : w7.cell? ⟨t, 2, none⟩ = some (Value.slice Av T.rows.length cv) := cell_at t7 rfl
      have f7 : w7.frozen? ⟨t, 2, none⟩ = false := frozen_at t7
      have t7o := t7
      go_upto_region 13 with fail
      rw [← hw8]
      clear hw8 hO7 hg7 hat k8 kb M78 M67 M06 y7 f7 t7 b7 m7 t7o y2 y3 f2 ntm
      have y2 : w8.cell? ⟨t, 2, none⟩ = some (.slice (some ⟨g, 0, none⟩) (T.rows.length + 1) c7) := cell_at tc rfl
      have GA := Lib.hid (show ∀ V, Mod (fun j => j = g) w8 V → Mod (fun j => j = g) w8 V ∧ V.cell? ⟨t, 2, none⟩ = some (.slice (some ⟨g, 0, none⟩) (T.rows.length + 1) c7) ∧ V.rangeAt w.heap.size 0 [.string x.1.name, .slice Al x.1.labels.length dl, .slice Ac x.1.needs.length dc, .slice At x.1.tols.length dt, .string x.1.req, .slice Aa x.1.apart.length da, .slice Ap x.1.prefer.length dp, .int .i64 x.1.prio, .string x.2] from fun V hV => ⟨hV, hV.cell' y2 ntg, by
        have h := World.rangeAt_of_block ((hV.block w.heap.size (Array.getElem?_eq_some_iff.1 bx).1 nbg).trans bx) 0 9
        simpa using h⟩)
      have HTC := Lib.hid tc
      go_upto_region 13 with fail
      clear y2 tc
      try clear hh
      refine wp_region_held_drew (S := fun V => Mod (fun j => j = g) w8 V ∧ V.cell? ⟨t, 2, none⟩ = some (.slice (some ⟨g, 0, none⟩) (T.rows.length + 1) c7) ∧ V.rangeAt w.heap.size 0 [.string x.1.name, .slice Al x.1.labels.length dl, .slice Ac x.1.needs.length dc, .slice At x.1.tols.length dt, .string x.1.req, .slice Aa x.1.apart.length da, .slice Ap x.1.prefer.length dp, .int .i64 x.1.prio, .string x.2]) (by kernel_rfl) (GA.out _ (Mod.refl _ _).drew) (fun hHeld => ?_)
      refine' wpAnyH_take (i := 0) (v := _) (List.getElem?_toArray.trans rfl) (by kernel_rfl) (by kernel_rfl) (by kernel_rfl) (fun _ _ _ h => h) (Or.inl ⟨by rfl, ?y0b⟩) hHeld ?r0b
      case y0b => intro w h; (try dsimp only at h); go_simp; (try with_reducible rfl)
      try simp only [Act.put, List.setIfInBounds_toArray, List.set_cons_zero, List.set_cons_succ]
      refine' wpAnyH_take (i := 1) (v := _) (List.getElem?_toArray.trans rfl) (by kernel_rfl) (by kernel_rfl) (by kernel_rfl) (fun _ _ _ h => h) (Or.inl ⟨by rfl, ?y1b⟩) hHeld ?r1b
      case y1b => intro w h; (try dsimp only at h); go_simp; (try with_reducible rfl)
      try simp only [Act.put, List.setIfInBounds_toArray, List.set_cons_zero, List.set_cons_succ]
      refine' wpAnyH_take (i := 2) (v := _) (List.getElem?_toArray.trans rfl) (by kernel_rfl) (by kernel_rfl) (by kernel_rfl) (fun _ _ _ h => h) (Or.inl ⟨by rfl, ?y2b⟩) hHeld ?r2b
      case y2b => intro w h; (try dsimp only at h); go_simp; (try with_reducible rfl)
      try simp only [Act.put, List.setIfInBounds_toArray, List.set_cons_zero, List.set_cons_succ]
      refine' wpAnyH_take (i := 3) (v := _) (List.getElem?_toArray.trans rfl) (by kernel_rfl) (by kernel_rfl) (by kernel_rfl) (fun _ _ _ h => h) (Or.inl ⟨by rfl, ?y3b⟩) hHeld ?r3b
      case y3b => intro w h; (try dsimp only at h); go_simp; (try with_reducible rfl)
      try simp only [Act.put, List.setIfInBounds_toArray, List.set_cons_zero, List.set_cons_succ]
      refine' wpAnyH_take (i := 4) (v := _) (List.getElem?_toArray.trans rfl) (by kernel_rfl) (by kernel_rfl) (by kernel_rfl) (fun _ _ _ h => h) (Or.inl ⟨by rfl, ?y4b⟩) hHeld ?r4b
      case y4b => intro w h; (try dsimp only at h); go_simp; (try with_reducible rfl)
      try simp only [Act.put, List.setIfInBounds_toArray, List.set_cons_zero, List.set_cons_succ]
      refine' wpAnyH_take (i := 5) (v := _) (List.getElem?_toArray.trans rfl) (by kernel_rfl) (by kernel_rfl) (by kernel_rfl) (fun _ _ _ h => h) (Or.inl ⟨by rfl, ?y5b⟩) hHeld ?r5b
      case y5b => intro w h; (try dsimp only at h); go_simp; (try with_reducible rfl)
      try simp only [Act.put, List.setIfInBounds_toArray, List.set_cons_zero, List.set_cons_succ]
      refine' wpAnyH_take (i := 6) (v := _) (List.getElem?_toArray.trans rfl) (by kernel_rfl) (by kernel_rfl) (by kernel_rfl) (fun _ _ _ h => h) (yieldsIf_load_mid (by rfl) 176 _ rfl w.heap.size 0 rfl [.string x.1.name, .slice Al x.1.labels.length dl, .slice Ac x.1.needs.length dc, .slice At x.1.tols.length dt, .string x.1.req, .slice Aa x.1.apart.length da, .slice Ap x.1.prefer.length dp, .int .i64 x.1.prio, .string x.2] _ (fun V hV => hV.2.2) Tryz.underlying176 rfl (by kernel_rfl)) hHeld ?_
      try simp only [Act.put, List.setIfInBounds_toArray, List.set_cons_zero, List.set_cons_succ]
      refine' wpAnyH_take (i := 7) (v := _) (List.getElem?_toArray.trans rfl) (by kernel_rfl) (by kernel_rfl) (by kernel_rfl) (fun _ _ _ h => h) (Or.inl ⟨by rfl, ?y7b⟩) hHeld ?r7b
      case y7b => intro w h; (try dsimp only at h); go_simp; (try with_reducible rfl)
      try simp only [Act.put, List.setIfInBounds_toArray, List.set_cons_zero, List.set_cons_succ]
      refine' wpAnyH_take (i := 8) (v := _) (List.getElem?_toArray.trans rfl) (by kernel_rfl) (by kernel_rfl) (by kernel_rfl) (fun _ _ _ h => h) (Or.inl ⟨by rfl, ?y8b⟩) hHeld ?r8b
      case y8b => intro w h; (try dsimp only at h); go_simp; rw [if_pos (show (T.rows.length : Int) < (T.rows.length : Int) + 1 by omega)]; (try with_reducible rfl)
      try simp only [Act.put, List.setIfInBounds_toArray, List.set_cons_zero, List.set_cons_succ]
      refine wpAnyH_ready (rs := [9]) (by kernel_rfl) (by simp) ?_
      refine AllReadyH.cons (List.getElem?_toArray.trans rfl) (fun K hK => ?_) AllReadyH.nil
      have hth : w8.drew.there g (T.rows.length * 11) 11 := OW.out.there (by omega)
      refine wp_store_mid 269 _ _ rfl g (T.rows.length * 11) #[.bool true, .string name, .string x.1.name, .slice Al x.1.labels.length dl, .slice Ac x.1.needs.length dc, .slice At x.1.tols.length dt, .string x.1.req, .slice Aa x.1.apart.length da, .slice Ap x.1.prefer.length dp, .int .i64 x.1.prio, .string x.2] rfl rfl hth (by kernel_rfl) (by simp [Value.oneCell']) ?_
      obtain ⟨wm, hwm⟩ : ∃ wm, wm = w8.drew.setCells g (T.rows.length * 11) [.bool true, .string name, .string x.1.name, .slice Al x.1.labels.length dl, .slice Ac x.1.needs.length dc, .slice At x.1.tols.length dt, .string x.1.req, .slice Aa x.1.apart.length da, .slice Ap x.1.prefer.length dp, .int .i64 x.1.prio, .string x.2] := ⟨_, rfl⟩
      have MM := Lib.hid (show Mod (fun j => j = g) w8 wm by rw [hwm]; exact (Mod.refl _ w8).drew.trans (mod_setCells w8.drew g _ _) (fun _ _ h => h))
      have OM := Lib.hid (show OwnK (rowK plcK) 11 269 wm 0 imm (.slice (some ⟨g, 0, none⟩) (T.rows.length + 1) c7) ((T.rows ++ [(⟨false, ⟨#[]⟩, plc0⟩ : SRow (Pd × ByteArray))]).set T.rows.length ⟨true, name, x⟩) by
        rw [hwm]
        have h := OwnK.set (rowOk plcOk) (by decide) OW.out (j := T.rows.length) (by omega) (y := (⟨true, name, x⟩ : SRow (Pd × ByteArray))) (cs := [.bool true, .string name, .string x.1.name, .slice Al x.1.labels.length dl, .slice Ac x.1.needs.length dc, .slice At x.1.tols.length dt, .string x.1.req, .slice Aa x.1.apart.length da, .slice Ap x.1.prefer.length dp, .int .i64 x.1.prio, .string x.2]) ⟨_, rfl, plcOk.move HX.out (fun j hj => MW.out.1 j hj)⟩
        exact h)
      change K _ (w8.drew.setCells g (T.rows.length * 11) [.bool true, .string name, .string x.1.name, .slice Al x.1.labels.length dl, .slice Ac x.1.needs.length dc, .slice At x.1.tols.length dt, .string x.1.req, .slice Aa x.1.apart.length da, .slice Ap x.1.prefer.length dp, .int .i64 x.1.prio, .string x.2])
      rw [← hwm]
      clear hwm hth
      refine hK.out _ _ (GA.out _ MM.out) (fun hHeld => ?_)
      clear hK K hHeld
      try simp only [Act.put, List.setIfInBounds_toArray, List.set_cons_zero, List.set_cons_succ]
      refine wpAnyH_done (by kernel_rfl) ?_ _
      have tc := (MM.out.block t (Array.getElem?_eq_some_iff.1 HTC.out).1 ntg).trans HTC.out
      have hmp := HMP.out.mod MM.out nmg
      obtain ⟨o, hmu, hm14⟩ := hmp.update strK Tryz.underlying238 name (.int .i64 (T.rows.length : Int)) (P := Tryz.prog)
      rw [aset_findC] at hm14
      obtain ⟨wn, hwn⟩ : ∃ wn, wn = putObj wm m o := ⟨_, rfl⟩
      have ntm : ¬ t = m := hmp.ne_cells tc
      have MN := Lib.hid (show Mod (fun j => j = m) wm wn by rw [hwn]; exact putObj_mod _ _ _)
      rw [← hwn] at hmu hm14
      have tn := (MN.out.block t (Array.getElem?_eq_some_iff.1 tc).1 ntm).trans tc
      have HM14 := Lib.hid hm14
      have y1 : wm.cell? ⟨t, 1, none⟩ = some (.map (some m)) := cell_at tc rfl
      clear hwn hm14 hmp tc
      go_upto_region 15 with fail
      clear hmu y1
      have y3 : wn.cell? ⟨t, 3, none⟩ = some (.int .i64 (T.low : Int)) := cell_at tn rfl
      have f3 : wn.frozen? ⟨t, 3, none⟩ = false := frozen_at tn
      have hw : IntKind.i64.wrap ((T.rows.length : Int) + 1) = (T.rows.length : Int) + 1 := by rw [IntKind.wrap_i64]; omega
      have tz := heap_setCell_at (i := 3) (v := .int .i64 ((T.rows.length : Int) + 1)) tn
      have MZ := Lib.hid (show Mod (fun j => j = t) wn (wn.setCell ⟨t, 3, none⟩ (.int .i64 ((T.rows.length : Int) + 1))) from Mod.setCell (Mod.refl (fun j => j = t) wn) (p := ⟨t, 3, none⟩) (fun _ => rfl) _)
      have tz : (wn.setCell ⟨t, 3, none⟩ (.int .i64 ((T.rows.length : Int) + 1))).heap[t]? = some (.cells #[.int .i64 2048, .map (some m), .slice (some ⟨g, 0, none⟩) (T.rows.length + 1) c7, .int .i64 ((T.rows.length + 1 : Nat) : Int)] 244) := (heap_setCell_at tn).trans rfl
      have hpt : putT T name x = ⟨aset T.find name T.rows.length, ((T.rows ++ [(⟨false, ⟨#[]⟩, plc0⟩ : SRow (Pd × ByteArray))]).set T.rows.length ⟨true, name, x⟩), T.rows.length + 1⟩ := by unfold putT; rw [HFR.out]; rw [if_pos rfl, set_last]
      have hmw : Mod (fun j => j = t ∨ j = m ∨ (Value.slice Av T.rows.length cv).ownBlock = some j) w (wn.setCell ⟨t, 3, none⟩ (.int .i64 ((T.rows.length : Int) + 1))) :=
        ((MW.out.2.trans MM.out (fun j hj e => .inr (.inr (HG.out j hj e)))).trans MN.out (fun j _ e => .inr (.inl e))).trans MZ.out (fun j _ e => .inl e)
      have hv := HR.out (.slice (some ⟨g, 0, none⟩) (T.rows.length + 1) c7) _ hmw (by
        rw [hpt]
        refine ⟨tz, HM14.out.mod MZ.out (fun e => ntm e.symm), ?_⟩
        refine OM.out.move (rowOk plcOk) (fun j hj hh => ?_) (Nat.le_trans MN.out.size MZ.out.size)
        have hjt : ¬ j = t := fun e => by
          subst e
          rcases hh with hh | hh
          · exact hit hh
          · simp [Value.ownBlock] at hh; exact ntg hh.symm
        have hjm : ¬ j = m := fun e => by
          subst e
          rcases hh with hh | hh
          · exact him hh
          · simp [Value.ownBlock] at hh; exact nmg hh.symm
        exact (MZ.out.block j (Nat.lt_of_lt_of_le hj MN.out.size) hjt).trans (MN.out.block j hj hjm)) HOWN.out
      rw [HFR.out] at hv
      clear hmw hpt tz tn
      go_wp2_with fail
      exact hv
end Go.Proofs.YtdceflgemhcgcaaGreatDoor
