/-
  berthlaw09.DomainRefused, walked: whatever changes are handed in, it returns true; it writes nothing that lay there.
-/
import Derived.Test.YtmenipaibjifiaaGreatDoorR44
import Derived.Test.YtmenipaibjifiaaGreatDoorR46
import Derived.Test.YtmenipaibjifiaaGreatDoorR47
import Derived.Test.YtmenipaibjifiaaGreatDoorR13
import Derived.Test.YtmenipaibjifiaaGreatDoorR20
import Derived.Deep.MidRow
set_option linter.unusedVariables false
set_option linter.unusedSimpArgs false
namespace Go.Proofs.YtmenipaibjifiaaGreatDoor
open Go.RowKit Go.BigFrame Go.Shelf
attribute [local go_sem] Oper.semAt_some

theorem tk {P : Program} {ops : Array Oper} {Q : Exit → Act → World → Prop} {md : Region.Mode} {S : World → Prop} {oi : Oper} {v : Value} {fuel : Nat} {listed : Array Bool} {a : Act} {w : World} {i : Nat} (hi : ops[i]? = some oi := by exact List.getElem?_toArray.trans rfl)
    (hs : Region.noSelect ops = true := by kernel_rfl) (hf : Region.free md ops listed i = true := by kernel_rfl) (hr : (Region.ready md ops listed).contains i = true := by kernel_rfl) (hQ : ∀ c a w, Q (.panic c) (a.put oi.dst v) w → Q (.panic c) a w := by exact fun _ _ _ h => h)
    (y : YieldsIf P ops S oi v a) (s : S w) (r : wpAnyH P md ops Q S fuel (listed.setIfInBounds i true) (a.put oi.dst v) w) : wpAnyH P md ops Q S (fuel + 1) listed a w := wpAnyH_take hi hs hf hr hQ y s r
theorem keys_short {d : RDom} (Z : Sized d) : (rKeysL d).length ≤ 1073741824 := by
  have := keysTo_length Z d.nodes.length
  unfold keysTo at this
  rw [List.take_length] at this
  unfold rKeysL
  omega
theorem sets_same {w w' : World} {s1 b1 s2 b2 n m : Nat} {x y : List Nat} (h1 : SetIn w s1 b1 n x) (h2 : SetIn w' s2 b2 n y) (hn : n = 64 * m) (h : natI (mems n x) = natI (mems n y)) : x = y := by
  have hl1 := h1.2.2.2.1
  have hl2 := h2.2.2.2.1
  have hm : mems n x = mems n y := by
    unfold natI at h
    exact List.map_inj_right (fun a b e => by omega) |>.1 h
  refine words_eq (m := m) (by omega) (by omega) h1.2.2.2.2.2 h2.2.2.2.2.2 (fun i hi => ?_)
  have h3 : i ∈ mems n x ↔ i ∈ mems n y := by rw [hm]
  unfold mems at h3
  simp only [List.mem_filter, List.mem_range] at h3
  have hin : i < n := by omega
  cases e1 : memW x i <;> cases e2 : memW y i <;> simp_all
theorem hidown {α : Type} {K : KRel α} {sz : Nat} {e : TypeId} {wg wh W : World} {B bi : Nat} {v : Value} {xs : List α} (h : OwnK K sz e wg B (fun _ => False) v xs) (H : KOk K sz) (g : Below wg.heap.size wg wh) (hM : Mod (fun k => k = bi) wh W) (_ : True ∨ B ≤ wg.heap.size) (hb : ∀ k, v.ownBlock = some k → ¬ k = bi) : SlK K sz W (fun k => v.ownBlock = some k) v xs := by
  refine SlK.mono H (SlK.move H (SlK.bnd H (h.slk H)) (fun k hk => ?_)) (fun k hk => hk.1.elim (fun f => f.elim) id)
  have hk1 : v.ownBlock = some k := hk.1.elim (fun f => f.elim) id
  exact (hM.block k (Nat.lt_of_lt_of_le hk.2 g.size) (hb k hk1)).trans (g.block k hk.2)
theorem range_bl {w w' : World} {b o : Nat} {cs : List Value} (h : w.rangeAt b o cs) (hb : w'.heap[b]? = w.heap[b]?) : w'.rangeAt b o cs := fun j v hv => by
  rw [World.cell?_of_block (w := w) hb]; exact h j v hv
theorem chg_rang {w : World} {b off k : Nat} {cx : List Value} (hcc : ∀ i u, cx[i]? = some u → w.cell? ⟨b, off + (k * 21 + i), none⟩ = some u) : w.rangeAt b (off + k * 21) cx := by
  intro j v hv
  rw [Nat.add_assoc]
  exact hcc j v hv
set_option maxRecDepth 100000 in
set_option maxHeartbeats 40000000 in
theorem domainRefused_k (R : Ending → World → Prop) (w : World) (ok : Nat → Prop) (vx : Value) (xs : List Chg) (hG : GOk w) (hok : ∀ k, ok k → k < w.heap.size) (hxs : SlK chgK 21 w ok vx xs)
    (hfx : ∀ s ∈ xs, ChgFit s ∧ ChgShort s) (hlx : xs.length ≤ 1048576)
    (hR : ∀ w', Below w.heap.size w w' → R (.returned (.bool true)) w') :
    Calls Tryz.prog 5 #[vx] w R := by
  have HR := Lib.hid hR
  have HOK := Lib.hid hok
  have HFX := Lib.hid hfx
  have HG := Lib.hid hG
  obtain ⟨Ax, cx, ex, _, _⟩ := hxs.form
  subst ex
  have HXS := Lib.hid hxs
  clear hR hok hxs hfx
  refine callsIn_wide.1 (callsIn_of_wp_marks (n := 6) Tryz.func5 rfl trivial ?_ rfl)
  refine wpIn_wide.2 ?_
  simp only [Tryz.ntmps5, List.size_toArray, List.length_cons, List.length_nil, Nat.reduceAdd, Nat.reduceSub, Array.replicate_succ, Array.replicate_zero, List.push_toArray, List.append_toArray, List.nil_append, List.cons_append]
  let hbp := bodyPost Tryz.prog Tryz.f5 R
  go_upto_region 1 with fail
  have HB0 := Lib.hid (show Below w.heap.size w (w.alloc (.cells #[.bool false] 4)) from Below.alloc (Below.refl _ _) (Nat.le_refl _) _)
  have O2 := Lib.hid (show (w.alloc (.cells #[.bool false] 4)).heap[w.heap.size]? = some (.cells #[.bool false] 4) from heap_alloc_new _ _)
  obtain ⟨B2, hB2⟩ : ∃ B2, B2 = w.heap.size := ⟨_, rfl⟩
  rw [← hB2] at O2
  rw [← hB2]
  generalize hW0 : w.alloc (.cells #[.bool false] 4) = w0 at *
  clear hW0
  have HB2 := Lib.hid hB2
  clear hB2
  go_wp2_with fail
  refine wakes_k _ _ (GOk.below hG HB0.out) ?_
  intro w1 g1
  have P2 := Lib.hid (g1.keep_ O2.out)
  have P1 := Lib.hid ((Array.getElem?_eq_some_iff.1 P2.out).1)
  have HB1 := Lib.hid (HB0.out.trans (g1.mono HB0.out.size))
  clear g1 hG HB0 O2
  go_wp2_with fail
  refine dnew_k _ _ ?_
  intro ha owna w2 g2 D2 hown2 hd2
  have HBB2 := Lib.hid (HB1.out.trans (g2.mono HB1.out.size))
  have Q2 := Lib.hid (g2.keep_ P2.out)
  have DA := Lib.hid D2
  have OA := Lib.hid (show ∀ j, j < w1.heap.size → owna j = none from hown2)
  clear g2 D2 hown2 P2
  go_wp2_with fail
  refine dnew_k _ _ ?_
  intro hb ownb w3 g3 D3 hown3 hd3
  have HB3 := Lib.hid (HBB2.out.trans (g3.mono HBB2.out.size))
  have hs1 := HB1.out.size
  have HM := Lib.hid (show RefM w ha hb St.empty St.empty owna ownb [(B2, .cells #[.bool false] 4), (w3.heap.size, .cells #[.pointer (some ⟨ha.d, 0, none⟩)] 24), (w3.heap.size + 1, .cells #[.pointer (some ⟨hb.d, 0, none⟩)] 24)] ((w3.alloc (.cells #[.pointer (some ⟨ha.d, 0, none⟩)] 24)).alloc (.cells #[.pointer (some ⟨hb.d, 0, none⟩)] 24)) from by
    have gA : Below w3.heap.size w3 ((w3.alloc (.cells #[.pointer (some ⟨ha.d, 0, none⟩)] 24)).alloc (.cells #[.pointer (some ⟨hb.d, 0, none⟩)] 24)) := Below.alloc (Below.alloc (Below.refl _ _) (Nat.le_refl _) _) (by simp) _
    have DA3 := DA.out.below g3
    have l2 := (Array.getElem?_eq_some_iff.1 Q2.out).1
    have hBw : B2 = w.heap.size := HB2.out
    have hbo : owna B2 = none ∧ ownb B2 = none := ⟨OA.out B2 (by
      have := HB1.out.size
      exact P1.out), hown3 B2 l2⟩
    exact {
      DA := DA3.below gA
      DB := D3.below gA
      dis := fun j hj => hown3 j (by
        rcases Nat.lt_or_ge j w2.heap.size with h | h
        · exact h
        · exact absurd (DA.out.lim j h) hj)
      below := HB3.out.trans (gA.mono HB3.out.size)
      own := fun j hj => ⟨OA.out j (by omega), hown3 j (by have := HBB2.out.size; omega)⟩
      keep := fun p hp => by
        simp only [List.mem_cons, List.not_mem_nil, or_false] at hp
        rcases hp with rfl | rfl | rfl
        · exact ⟨heap_keep (heap_keep (g3.keep_ Q2.out) _) _, hbo.1, hbo.2, by show w.heap.size ≤ B2; omega⟩
        · exact ⟨heap_keep (heap_alloc_new _ _) _, DA3.lim _ (Nat.le_refl _), D3.lim _ (Nat.le_refl _), HB3.out.size⟩
        · refine ⟨?_, DA3.lim _ (by show w3.heap.size ≤ w3.heap.size + 1; omega), D3.lim _ (by show w3.heap.size ≤ w3.heap.size + 1; omega), Nat.le_succ_of_le HB3.out.size⟩
          have := heap_alloc_new (w3.alloc (.cells #[.pointer (some ⟨ha.d, 0, none⟩)] 24)) (.cells #[.pointer (some ⟨hb.d, 0, none⟩)] 24)
          rwa [World.size_alloc] at this })
  obtain ⟨B3, hB3⟩ : ∃ B3, B3 = w3.heap.size := ⟨_, rfl⟩
  obtain ⟨B4, hB4⟩ : ∃ B4, B4 = w3.heap.size + 1 := ⟨_, rfl⟩
  rw [← hB4, ← hB3] at HM
  clear g3 D3 hown3 hd2 hd3 DA OA HBB2 HB3 Q2 HB1
  go_wp2_with fail
  try rw [← hB4]
  try rw [← hB3]
  clear hB3 hB4
  refine wp_loopJ (fun a wr => ∃ (k : Nat) (S : St) (d : RDom) (owna ownb : Own') (Ds : List Nat) (u1 u6 u7 u8 u9 u10 u11 u12 u13 u14 u15 u16 u17 u18 u19 u20 u21 u22 u23 u24 u25 u26 u27 u28 u29 u30 u31 u32 u33 u34 u35 u36 u37 u38 u39 u40 u41 u42 u43 u44 u45 u46 u47 u48 u49 u50 u51 u52 u53 u54 u55 u56 u57 u58 u59 u60 u61 u62 u63 u64 u65 u66 u67 u68 u69 u70 u71 u72 u73 u74 u75 u76 u77 u78 u79 u80 u81 u82 u83 u84 u85 u86 u87 u88 u89 u90 u91 u92 u93 u94 u95 u96 u97 u98 u99 u100 u101 u102 u103 u104 u105 u106 u107 u108 u109 u110 u111 u112 u113 u114 u115 u116 u117 u118 u119 u120 u121 u122 u123 u124 u125 u126 u127 u128 u129 u130 u131 u132 u133 : Value), a = ⟨#[.slice Ax xs.length cx, u1, .pointer (some ⟨B2, 0, none⟩), .pointer (some ⟨B3, 0, none⟩), .pointer (some ⟨B4, 0, none⟩), .int .i64 k, u6, u7, u8, u9, u10, u11, u12, u13, u14, u15, u16, u17, u18, u19, u20, u21, u22, u23, u24, u25, u26, u27, u28, u29, u30, u31, u32, u33, u34, u35, u36, u37, u38, u39, u40, u41, u42, u43, u44, u45, u46, u47, u48, u49, u50, u51, u52, u53, u54, u55, u56, u57, u58, u59, u60, u61, u62, u63, u64, u65, u66, u67, u68, u69, u70, u71, u72, u73, u74, u75, u76, u77, u78, u79, u80, u81, u82, u83, u84, u85, u86, u87, u88, u89, u90, u91, u92, u93, u94, u95, u96, u97, u98, u99, u100, u101, u102, u103, u104, u105, u106, u107, u108, u109, u110, u111, u112, u113, u114, u115, u116, u117, u118, u119, u120, u121, u122, u123, u124, u125, u126, u127, u128, u129, u130, u131, u132, u133], Ds.map mkD⟩ ∧ k ≤ xs.length ∧ RefM w ha hb S S owna ownb ([(B2, .cells #[.bool false] 4), (B3, .cells #[.pointer (some ⟨ha.d, 0, none⟩)] 24), (B4, .cells #[.pointer (some ⟨hb.d, 0, none⟩)] 24)] ++ Ds.map fun D => (D, .deferred (some []))) wr ∧ Tells d S ∧ Fit d ∧ Ds.Nodup)
    (fun a _ => xs.length - (intOf (a.tmps.getD 5 undef)).toNat) ?atStart ?round
  case atStart => exact ⟨0, St.empty, ⟨[], []⟩, owna, ownb, [], _, _, _, _, _, _, _, _, _, _, _, _, _, _, _, _, _, _, _, _, _, _, _, _, _, _, _, _, _, _, _, _, _, _, _, _, _, _, _, _, _, _, _, _, _, _, _, _, _, _, _, _, _, _, _, _, _, _, _, _, _, _, _, _, _, _, _, _, _, _, _, _, _, _, _, _, _, _, _, _, _, _, _, _, _, _, _, _, _, _, _, _, _, _, _, _, _, _, _, _, _, _, _, _, _, _, _, _, _, _, _, _, _, _, _, _, _, _, _, _, _, _, _, _, _, _, _, _, _, rfl, Nat.zero_le _, by rw [List.map_nil, List.append_nil]; exact HM.out, Tells.empty, Fit.empty, List.nodup_nil⟩
  case round =>
    intro a wr hinv J hJJ
    clear HM P1
    obtain ⟨k, S, d, owna, ownb, Ds, hinv⟩ := hinv
    obtain ⟨u1, hinv⟩ := hinv
    obtain ⟨u6, hinv⟩ := hinv
    obtain ⟨u7, hinv⟩ := hinv
    obtain ⟨u8, hinv⟩ := hinv
    obtain ⟨u9, hinv⟩ := hinv
    obtain ⟨u10, hinv⟩ := hinv
    obtain ⟨u11, hinv⟩ := hinv
    obtain ⟨u12, hinv⟩ := hinv
    obtain ⟨u13, hinv⟩ := hinv
    obtain ⟨u14, hinv⟩ := hinv
    obtain ⟨u15, hinv⟩ := hinv
    obtain ⟨u16, hinv⟩ := hinv
    obtain ⟨u17, hinv⟩ := hinv
    obtain ⟨u18, hinv⟩ := hinv
    obtain ⟨u19, hinv⟩ := hinv
    obtain ⟨u20, hinv⟩ := hinv
    obtain ⟨u21, hinv⟩ := hinv
    obtain ⟨u22, hinv⟩ := hinv
    obtain ⟨u23, hinv⟩ := hinv
    obtain ⟨u24, hinv⟩ := hinv
    obtain ⟨u25, hinv⟩ := hinv
    obtain ⟨u26, hinv⟩ := hinv
    obtain ⟨u27, hinv⟩ := hinv
    obtain ⟨u28, hinv⟩ := hinv
    obtain ⟨u29, hinv⟩ := hinv
    obtain ⟨u30, hinv⟩ := hinv
    obtain ⟨u31, hinv⟩ := hinv
    obtain ⟨u32, hinv⟩ := hinv
    obtain ⟨u33, hinv⟩ := hinv
    obtain ⟨u34, hinv⟩ := hinv
    obtain ⟨u35, hinv⟩ := hinv
    obtain ⟨u36, hinv⟩ := hinv
    obtain ⟨u37, hinv⟩ := hinv
    obtain ⟨u38, hinv⟩ := hinv
    obtain ⟨u39, hinv⟩ := hinv
    obtain ⟨u40, hinv⟩ := hinv
    obtain ⟨u41, hinv⟩ := hinv
    obtain ⟨u42, hinv⟩ := hinv
    obtain ⟨u43, hinv⟩ := hinv
    obtain ⟨u44, hinv⟩ := hinv
    obtain ⟨u45, hinv⟩ := hinv
    obtain ⟨u46, hinv⟩ := hinv
    obtain ⟨u47, hinv⟩ := hinv
    obtain ⟨u48, hinv⟩ := hinv
    obtain ⟨u49, hinv⟩ := hinv
    obtain ⟨u50, hinv⟩ := hinv
    obtain ⟨u51, hinv⟩ := hinv
    obtain ⟨u52, hinv⟩ := hinv
    obtain ⟨u53, hinv⟩ := hinv
    obtain ⟨u54, hinv⟩ := hinv
    obtain ⟨u55, hinv⟩ := hinv
    obtain ⟨u56, hinv⟩ := hinv
    obtain ⟨u57, hinv⟩ := hinv
    obtain ⟨u58, hinv⟩ := hinv
    obtain ⟨u59, hinv⟩ := hinv
    obtain ⟨u60, hinv⟩ := hinv
    obtain ⟨u61, hinv⟩ := hinv
    obtain ⟨u62, hinv⟩ := hinv
    obtain ⟨u63, hinv⟩ := hinv
    obtain ⟨u64, hinv⟩ := hinv
    obtain ⟨u65, hinv⟩ := hinv
    obtain ⟨u66, hinv⟩ := hinv
    obtain ⟨u67, hinv⟩ := hinv
    obtain ⟨u68, hinv⟩ := hinv
    obtain ⟨u69, hinv⟩ := hinv
    obtain ⟨u70, hinv⟩ := hinv
    obtain ⟨u71, hinv⟩ := hinv
    obtain ⟨u72, hinv⟩ := hinv
    obtain ⟨u73, hinv⟩ := hinv
    obtain ⟨u74, hinv⟩ := hinv
    obtain ⟨u75, hinv⟩ := hinv
    obtain ⟨u76, hinv⟩ := hinv
    obtain ⟨u77, hinv⟩ := hinv
    obtain ⟨u78, hinv⟩ := hinv
    obtain ⟨u79, hinv⟩ := hinv
    obtain ⟨u80, hinv⟩ := hinv
    obtain ⟨u81, hinv⟩ := hinv
    obtain ⟨u82, hinv⟩ := hinv
    obtain ⟨u83, hinv⟩ := hinv
    obtain ⟨u84, hinv⟩ := hinv
    obtain ⟨u85, hinv⟩ := hinv
    obtain ⟨u86, hinv⟩ := hinv
    obtain ⟨u87, hinv⟩ := hinv
    obtain ⟨u88, hinv⟩ := hinv
    obtain ⟨u89, hinv⟩ := hinv
    obtain ⟨u90, hinv⟩ := hinv
    obtain ⟨u91, hinv⟩ := hinv
    obtain ⟨u92, hinv⟩ := hinv
    obtain ⟨u93, hinv⟩ := hinv
    obtain ⟨u94, hinv⟩ := hinv
    obtain ⟨u95, hinv⟩ := hinv
    obtain ⟨u96, hinv⟩ := hinv
    obtain ⟨u97, hinv⟩ := hinv
    obtain ⟨u98, hinv⟩ := hinv
    obtain ⟨u99, hinv⟩ := hinv
    obtain ⟨u100, hinv⟩ := hinv
    obtain ⟨u101, hinv⟩ := hinv
    obtain ⟨u102, hinv⟩ := hinv
    obtain ⟨u103, hinv⟩ := hinv
    obtain ⟨u104, hinv⟩ := hinv
    obtain ⟨u105, hinv⟩ := hinv
    obtain ⟨u106, hinv⟩ := hinv
    obtain ⟨u107, hinv⟩ := hinv
    obtain ⟨u108, hinv⟩ := hinv
    obtain ⟨u109, hinv⟩ := hinv
    obtain ⟨u110, hinv⟩ := hinv
    obtain ⟨u111, hinv⟩ := hinv
    obtain ⟨u112, hinv⟩ := hinv
    obtain ⟨u113, hinv⟩ := hinv
    obtain ⟨u114, hinv⟩ := hinv
    obtain ⟨u115, hinv⟩ := hinv
    obtain ⟨u116, hinv⟩ := hinv
    obtain ⟨u117, hinv⟩ := hinv
    obtain ⟨u118, hinv⟩ := hinv
    obtain ⟨u119, hinv⟩ := hinv
    obtain ⟨u120, hinv⟩ := hinv
    obtain ⟨u121, hinv⟩ := hinv
    obtain ⟨u122, hinv⟩ := hinv
    obtain ⟨u123, hinv⟩ := hinv
    obtain ⟨u124, hinv⟩ := hinv
    obtain ⟨u125, hinv⟩ := hinv
    obtain ⟨u126, hinv⟩ := hinv
    obtain ⟨u127, hinv⟩ := hinv
    obtain ⟨u128, hinv⟩ := hinv
    obtain ⟨u129, hinv⟩ := hinv
    obtain ⟨u130, hinv⟩ := hinv
    obtain ⟨u131, hinv⟩ := hinv
    obtain ⟨u132, hinv⟩ := hinv
    obtain ⟨u133, hinv⟩ := hinv
    obtain ⟨ha_, hk, M0, T0, F0, N0⟩ := hinv
    subst ha_
    try dsimp only
    have HJJ := Lib.hid hJJ
    clear hJJ
    by_cases hkl : k < xs.length
    · obtain ⟨L, hL⟩ : ∃ L : List (Nat × Obj), L = ([(B2, .cells #[.bool false] 4), (B3, .cells #[.pointer (some ⟨ha.d, 0, none⟩)] 24), (B4, .cells #[.pointer (some ⟨hb.d, 0, none⟩)] 24)] ++ Ds.map fun D => (D, .deferred (some []))) := ⟨_, rfl⟩
      rw [← hL] at M0
      have HL := Lib.hid hL
      have M1 := Lib.hid M0
      have T1 := Lib.hid T0
      have F1 := Lib.hid F0
      have HN := Lib.hid N0
      try clear M0
      try clear hL
      clear T0 F0 N0
      obtain ⟨b, off, c', he, _, _, hbok, hbl, hce⟩ := HXS.out.addr (by omega)
      simp only [Value.slice.injEq] at he
      obtain ⟨rfl, -, rfl⟩ := he
      obtain ⟨s, hs⟩ : ∃ s, xs[k]'hkl = s := ⟨_, rfl⟩
      have hc := hce k hkl
      rw [hs] at hc
      obtain ⟨cs, hcs, hl21, hcc⟩ := hc
      obtain ⟨fit1, fit2⟩ := HFX.out s (by rw [← hs]; exact List.getElem_mem hkl)
      have hbw : b < w.heap.size := HOK.out b hbok
      have R0 := Lib.hid (chg_rang hcc)
      have HCS := Lib.hid hcs
      have HF1 := Lib.hid fit1
      have HF2 := Lib.hid fit2
      obtain ⟨S2, hS2⟩ : ∃ S2, S2 = applyS S s := ⟨_, rfl⟩
      obtain ⟨d2, hd2⟩ : ∃ d2, d2 = (applyR d s).1 := ⟨_, rfl⟩
      obtain ⟨er, her⟩ : ∃ er : Int, (if fitsS S s = false then (90 : Int) else 0) = er := ⟨_, rfl⟩
      have HS2 := Lib.hid hS2
      have HER := Lib.hid her
      have T2 := Lib.hid (show Tells d2 S2 by rw [hd2, hS2]; exact (T1.out.apply s).1)
      have F2 := Lib.hid (show Fit d2 by rw [hd2]; exact Fit.apply T1.out F1.out HF1.out)
      clear hce hcc hs hcs fit1 fit2 hS2 hd2 her
      have KB3 := Lib.hid (M1.out.keep (B3, .cells #[.pointer (some ⟨ha.d, 0, none⟩)] 24) (by rw [HL.out]; simp))
      go_upto_region 7 with fail
      go_cut [6] (fun v6 W => ∃ own2, v6 = .int .i64 er ∧ RefM w ha hb S2 S own2 ownb L W)
      case first =>
        have xa : wr.cell? ⟨B3, 0, none⟩ = some (.pointer (some ⟨ha.d, 0, none⟩)) := cell_at KB3.out.1 rfl
        have HK := Lib.hid (show ∀ W, Mod (Mut owna) wr W → Mod (Mut owna) wr W ∧ W.cell? ⟨B3, 0, none⟩ = some (.pointer (some ⟨ha.d, 0, none⟩)) from fun W hW => ⟨hW, hW.cell' xa (fun h => h.1 KB3.out.2.1)⟩)
        have YA := Lib.hid (Mod.refl (Mut owna) wr).drew
        have RR := Lib.hid (range_bl R0.out (M1.out.below.block b hbw))
        have hszW := M1.out.below.size
        have HLB := Lib.hid (show b < wr.heap.size by omega)
        have HOB := Lib.hid (show ¬ Mut owna b from fun h => h.1 (M1.out.own b hbw).1)
        clear xa
        refine wp_region_noPanic ?_
        refine wp_region_held_drew (S := fun W => Mod (Mut owna) wr W ∧ W.cell? ⟨B3, 0, none⟩ = some (.pointer (some ⟨ha.d, 0, none⟩))) (by kernel_rfl) (HK.out _ YA.out) (fun hHeld => ?_)
        refine' tk (i := 0) (y := .inl ⟨by rfl, ?y0a⟩) (s := hHeld) (r := ?_)
        case y0a => intro w h; (try dsimp only at h); go_simp; (try with_reducible rfl)
        try simp only [Act.put, List.setIfInBounds_toArray, List.set_cons_zero, List.set_cons_succ]
        refine' tk (i := 1) (y := .inl ⟨by rfl, ?y1a⟩) (s := hHeld) (r := ?_)
        case y1a => intro w h; (try dsimp only at h); go_simp; (try with_reducible rfl)
        try simp only [Act.put, List.setIfInBounds_toArray, List.set_cons_zero, List.set_cons_succ]
        refine' tk (i := 2) (y := .inl ⟨by rfl, ?y2a⟩) (s := hHeld) (r := ?_)
        case y2a => intro w h; (try dsimp only at h); go_simp; (try with_reducible rfl)
        try simp only [Act.put, List.setIfInBounds_toArray, List.set_cons_zero, List.set_cons_succ]
        refine' tk (i := 3) (y := .inl ⟨by rfl, ?y3a⟩) (s := hHeld) (r := ?_)
        case y3a => intro w h; (try dsimp only at h); go_simp; (try with_reducible rfl)
        try simp only [Act.put, List.setIfInBounds_toArray, List.set_cons_zero, List.set_cons_succ]
        refine' wpAnyH_take (i := 4) (v := _) (List.getElem?_toArray.trans rfl) (by kernel_rfl) (by kernel_rfl) (by kernel_rfl) (fun _ _ _ h => h) (yieldsIf_load_mid (by rfl) 42 _ rfl b (off + k * 21) rfl cs _ (fun W hW => range_bl RR.out (hW.1.block b HLB.out HOB.out)) Tryz.underlying42 rfl (by rw [hl21]; kernel_rfl)) hHeld ?_
        try simp only [Act.put, List.setIfInBounds_toArray, List.set_cons_zero, List.set_cons_succ]
        refine wpAnyH_ready (rs := [5]) (by kernel_rfl) (by simp) ?_
        refine AllReadyH.cons (List.getElem?_toArray.trans rfl) (fun K hK => ?_) AllReadyH.nil
        go_simp
        go_at_call 13
        refine copyChange_k _ _ ok s cs (fun j hj => by have := HOK.out j hj; show j < wr.heap.size; omega) (chgOk.move HCS.out (fun j hj => M1.out.below.block j (HOK.out j hj))) HF2.out ?_
        intro cs2 w6 g6 hx6
        have yb : Below wr.heap.size wr w6 := Below.of_drew g6
        have HX6 := Lib.hid (show chgK w6 (fun j => wr.heap.size ≤ j) s cs2 from hx6)
        clear g6 hx6
        go_wp2_with fail
        refine hK.out _ _ (HK.out _ (Mod.of_below yb).non_to) (fun hHeld => ?_)
        clear hK K
        try simp only [Act.put, List.setIfInBounds_toArray, List.set_cons_zero, List.set_cons_succ]
        refine wpAnyH_ready (rs := [6]) (by kernel_rfl) (by simp) ?_
        refine AllReadyH.cons (List.getElem?_toArray.trans rfl) (fun K hK => ?_) AllReadyH.nil
        go_simp
        go_at_call 12
        refine dapply_k _ _ ha owna S d (fun j => wr.heap.size ≤ j ∧ j < w6.heap.size) s cs2 (M1.out.DA.below yb) T1.out F1.out (fun j hj => ⟨hj.2, fun e => e.1 (M1.out.DA.lim j hj.1)⟩) (chgOk.bnd HX6.out) HF1.out (GOk.below HG.out (M1.out.below.trans (yb.mono M1.out.below.size))) ?_
        intro own9 w7 D7 E7 G7
        rw [HER.out]
        rw [← HS2.out] at D7
        have MM := Lib.hid ((M1.out.mono yb).apply D7 E7 G7)
        have zM := Lib.hid (((Mod.of_below yb).non_to : Mod (Mut owna) wr w6).seq G7)
        clear D7 E7 G7
        go_wp2_with fail
        refine hK.out _ _ (HK.out _ zM.out) (fun hHeld => ?_)
        clear hK K
        try simp only [Act.put, List.setIfInBounds_toArray, List.set_cons_zero, List.set_cons_succ]
        refine' tk (i := 7) (y := .inl ⟨by rfl, ?y7a⟩) (s := hHeld) (r := ?_)
        case y7a => intro w h; (try dsimp only at h); go_simp; (try with_reducible rfl)
        try simp only [Act.put, List.setIfInBounds_toArray, List.set_cons_zero, List.set_cons_succ]
        refine wpAnyH_done (by kernel_rfl) ?_ _
        refine NoPanic.normal ?_
        go_wp2_with fail
        go_meet
        exact ⟨own9, rfl, MM.out⟩
      obtain ⟨own2, rfl, m2⟩ := hcut
      have M2 := Lib.hid m2
      clear m2 KB3
      go_upto_region 8 with fail
      go_cut [34] (fun v W => v = .bool (er == 0) ∧ RefM w ha hb S2 S own2 ownb L W)
      case first =>
        go_wp2_with fail
        go_meet
        exact ⟨rfl, M2.out⟩
      obtain ⟨rfl, m2⟩ := hcut
      have M2 := Lib.hid m2
      clear m2
      go_step
      go_cut [42] (fun _ W => ∃ oa ob, RefM w ha hb S2 S2 oa ob L W)
      case first =>
        by_cases hf : fitsS S s = false
        · obtain rfl : er = 90 := by rw [← HER.out, if_pos hf]
          have M3 := Lib.hid (show RefM w ha hb S2 S2 own2 ownb L wc by
            have e : S2 = S := by rw [HS2.out]; unfold applyS; rw [if_pos hf]
            have := M2.out
            rw [e] at this ⊢
            exact this)
          clear hf
          go_wp2_with fail
          go_meet
          exact ⟨own2, ownb, M3.out⟩
        · obtain rfl : er = 0 := by rw [← HER.out, if_neg hf]
          clear hf
          have MS := Lib.hid M2.out.swap
          have KB4 := Lib.hid (MS.out.keep (B4, .cells #[.pointer (some ⟨hb.d, 0, none⟩)] 24) (by rw [HL.out]; simp))
          go_upto_region 9 with fail
          have xb : wc.cell? ⟨B4, 0, none⟩ = some (.pointer (some ⟨hb.d, 0, none⟩)) := cell_at KB4.out.1 rfl
          have HK := Lib.hid (show ∀ W, Mod (Mut ownb) wc W → Mod (Mut ownb) wc W ∧ W.cell? ⟨B4, 0, none⟩ = some (.pointer (some ⟨hb.d, 0, none⟩)) from fun W hW => ⟨hW, hW.cell' xb (fun h => h.1 KB4.out.2.1)⟩)
          have YA := Lib.hid (Mod.refl (Mut ownb) wc).drew
          have RR := Lib.hid (range_bl R0.out (MS.out.below.block b hbw))
          have hszW := MS.out.below.size
          have HLB := Lib.hid (show b < wc.heap.size by omega)
          have HOB := Lib.hid (show ¬ Mut ownb b from fun h => h.1 (MS.out.own b hbw).1)
          clear xb
          refine wp_region_noPanic ?_
          refine wp_region_held_drew (S := fun W => Mod (Mut ownb) wc W ∧ W.cell? ⟨B4, 0, none⟩ = some (.pointer (some ⟨hb.d, 0, none⟩))) (by kernel_rfl) (HK.out _ YA.out) (fun hHeld => ?_)
          refine' tk (i := 0) (y := .inl ⟨by rfl, ?y0b⟩) (s := hHeld) (r := ?_)
          case y0b => intro w h; (try dsimp only at h); go_simp; (try with_reducible rfl)
          try simp only [Act.put, List.setIfInBounds_toArray, List.set_cons_zero, List.set_cons_succ]
          refine' tk (i := 1) (y := .inl ⟨by rfl, ?y1b⟩) (s := hHeld) (r := ?_)
          case y1b => intro w h; (try dsimp only at h); go_simp; (try with_reducible rfl)
          try simp only [Act.put, List.setIfInBounds_toArray, List.set_cons_zero, List.set_cons_succ]
          refine' tk (i := 2) (y := .inl ⟨by rfl, ?y2b⟩) (s := hHeld) (r := ?_)
          case y2b => intro w h; (try dsimp only at h); go_simp; (try with_reducible rfl)
          try simp only [Act.put, List.setIfInBounds_toArray, List.set_cons_zero, List.set_cons_succ]
          refine' tk (i := 3) (y := .inl ⟨by rfl, ?y3b⟩) (s := hHeld) (r := ?_)
          case y3b => intro w h; (try dsimp only at h); go_simp; (try with_reducible rfl)
          try simp only [Act.put, List.setIfInBounds_toArray, List.set_cons_zero, List.set_cons_succ]
          refine' wpAnyH_take (i := 4) (v := _) (List.getElem?_toArray.trans rfl) (by kernel_rfl) (by kernel_rfl) (by kernel_rfl) (fun _ _ _ h => h) (yieldsIf_load_mid (by rfl) 42 _ rfl b (off + k * 21) rfl cs _ (fun W hW => range_bl RR.out (hW.1.block b HLB.out HOB.out)) Tryz.underlying42 rfl (by rw [hl21]; kernel_rfl)) hHeld ?_
          try simp only [Act.put, List.setIfInBounds_toArray, List.set_cons_zero, List.set_cons_succ]
          refine wpAnyH_ready (rs := [5]) (by kernel_rfl) (by simp) ?_
          refine AllReadyH.cons (List.getElem?_toArray.trans rfl) (fun K hK => ?_) AllReadyH.nil
          go_simp
          go_at_call 13
          refine copyChange_k _ _ ok s cs (fun j hj => by have := HOK.out j hj; show j < wc.heap.size; omega) (chgOk.move HCS.out (fun j hj => MS.out.below.block j (HOK.out j hj))) HF2.out ?_
          intro cs2 w6 g6 hx6
          have yb : Below wc.heap.size wc w6 := Below.of_drew g6
          have HX6 := Lib.hid (show chgK w6 (fun j => wc.heap.size ≤ j) s cs2 from hx6)
          clear g6 hx6
          go_wp2_with fail
          refine hK.out _ _ (HK.out _ (Mod.of_below yb).non_to) (fun hHeld => ?_)
          clear hK K
          try simp only [Act.put, List.setIfInBounds_toArray, List.set_cons_zero, List.set_cons_succ]
          refine wpAnyH_ready (rs := [6]) (by kernel_rfl) (by simp) ?_
          refine AllReadyH.cons (List.getElem?_toArray.trans rfl) (fun K hK => ?_) AllReadyH.nil
          go_simp
          go_at_call 12
          refine dapply_k _ _ hb ownb S d (fun j => wc.heap.size ≤ j ∧ j < w6.heap.size) s cs2 (MS.out.DA.below yb) T1.out F1.out (fun j hj => ⟨hj.2, fun e => e.1 (MS.out.DA.lim j hj.1)⟩) (chgOk.bnd HX6.out) HF1.out (GOk.below HG.out (MS.out.below.trans (yb.mono MS.out.below.size))) ?_
          intro own9 w7 D7 E7 G7
          rw [HER.out]
          rw [← HS2.out] at D7
          have MM := Lib.hid ((MS.out.mono yb).apply D7 E7 G7)
          have zM := Lib.hid (((Mod.of_below yb).non_to : Mod (Mut ownb) wc w6).seq G7)
          clear D7 E7 G7
          go_wp2_with fail
          refine hK.out _ _ (HK.out _ zM.out) (fun hHeld => ?_)
          clear hK K
          try simp only [Act.put, List.setIfInBounds_toArray, List.set_cons_zero, List.set_cons_succ]
          refine' tk (i := 7) (y := .inl ⟨by rfl, ?y7b⟩) (s := hHeld) (r := ?_)
          case y7b => intro w h; (try dsimp only at h); go_simp; (try with_reducible rfl)
          try simp only [Act.put, List.setIfInBounds_toArray, List.set_cons_zero, List.set_cons_succ]
          refine wpAnyH_done (by kernel_rfl) ?_ _
          refine NoPanic.normal ?_
          go_wp2_with fail
          go_meet
          exact ⟨own2, own9, MM.out.swap⟩
      obtain ⟨oa, ob, m3⟩ := hcut
      have M3 := Lib.hid m3
      clear m3 M1 M2 T1 F1 HCS R0 HF1 HF2
      have HQA := Lib.hid (Asked.dom M3.out.DA T2.out F2.out)
      have HQB := Lib.hid (Asked.dom M3.out.DB T2.out F2.out)
      have ZS := Lib.hid (ShortS.of T2.out F2.out)
      have HZ := Lib.hid (Sized.of T2.out F2.out)
      have KB3 := Lib.hid (M3.out.keep (B3, .cells #[.pointer (some ⟨ha.d, 0, none⟩)] 24) (by rw [HL.out]; simp))
      have KB4 := Lib.hid (M3.out.keep (B4, .cells #[.pointer (some ⟨hb.d, 0, none⟩)] 24) (by rw [HL.out]; simp))
      have x3 : wc.cell? ⟨B3, 0, none⟩ = some (.pointer (some ⟨ha.d, 0, none⟩)) := cell_at KB3.out.1 rfl
      have x4 : wc.cell? ⟨B4, 0, none⟩ = some (.pointer (some ⟨hb.d, 0, none⟩)) := cell_at KB4.out.1 rfl
      have HK := Lib.hid (show ∀ W, Below wc.heap.size wc W → Below wc.heap.size wc W ∧ W.cell? ⟨B3, 0, none⟩ = some (.pointer (some ⟨ha.d, 0, none⟩)) ∧ W.cell? ⟨B4, 0, none⟩ = some (.pointer (some ⟨hb.d, 0, none⟩)) from
        fun W hW => ⟨hW, (Mod.of_below hW).cell' x3 (fun h => h), (Mod.of_below hW).cell' x4 (fun h => h)⟩)
      clear x3 x4
      obtain ⟨W0, hW0⟩ : ∃ W, W = wc := ⟨_, rfl⟩
      subst hW0
      go_upto_region 14 with fail
      go_cut [57] (fun v W => v = .bool false ∧ Below W0.heap.size W0 W)
      case first =>
        refine wp_region_noPanic ?_
        have YA := Lib.hid (Below.refl W0.heap.size W0).drew
        refine wp_region_held_drew (S := fun W => Below W0.heap.size W0 W ∧ W.cell? ⟨B3, 0, none⟩ = some (.pointer (some ⟨ha.d, 0, none⟩)) ∧ W.cell? ⟨B4, 0, none⟩ = some (.pointer (some ⟨hb.d, 0, none⟩))) (by kernel_rfl) (HK.out _ YA.out) (fun hHeld => ?_)
        refine' tk (i := 0) (y := .inl ⟨by rfl, ?y0c⟩) (s := hHeld) (r := ?_)
        case y0c => intro w h; (try dsimp only at h); go_simp; (try with_reducible rfl)
        try simp only [Act.put, List.setIfInBounds_toArray, List.set_cons_zero, List.set_cons_succ]
        refine' tk (i := 1) (y := .inl ⟨by rfl, ?y1c⟩) (s := hHeld) (r := ?_)
        case y1c => intro w h; (try dsimp only at h); go_simp; (try with_reducible rfl)
        try simp only [Act.put, List.setIfInBounds_toArray, List.set_cons_zero, List.set_cons_succ]
        refine wpAnyH_ready (rs := [2]) (by kernel_rfl) (by simp) ?_
        refine AllReadyH.cons (List.getElem?_toArray.trans rfl) (fun K hK => ?_) AllReadyH.nil
        go_simp
        go_at_call 17
        refine same_q _ _ S2 S2 ha oa (M3.out.DA.below YA.out) hb ob (M3.out.DB.below YA.out) ZS.out ZS.out true (sameQ.refl S2) ?_
        intro w4 g4
        have y1 : Below W0.heap.size W0 w4 := Below.of_drew g4
        clear g4
        go_wp2_with fail
        refine hK.out _ _ (HK.out _ y1) (fun hHeld => ?_)
        clear hK K
        try simp only [Act.put, List.setIfInBounds_toArray, List.set_cons_zero, List.set_cons_succ]
        refine' tk (i := 3) (y := .inl ⟨by rfl, ?y3c⟩) (s := hHeld) (r := ?_)
        case y3c => intro w h; (try dsimp only at h); go_simp; (try with_reducible rfl)
        try simp only [Act.put, List.setIfInBounds_toArray, List.set_cons_zero, List.set_cons_succ]
        refine' tk (i := 4) (y := .inl ⟨by rfl, ?y4c⟩) (s := hHeld) (r := ?_)
        case y4c => intro w h; (try dsimp only at h); go_simp; (try with_reducible rfl)
        try simp only [Act.put, List.setIfInBounds_toArray, List.set_cons_zero, List.set_cons_succ]
        refine' tk (i := 5) (y := .inl ⟨by rfl, ?y5c⟩) (s := hHeld) (r := ?_)
        case y5c => intro w h; (try dsimp only at h); go_simp; (try with_reducible rfl)
        try simp only [Act.put, List.setIfInBounds_toArray, List.set_cons_zero, List.set_cons_succ]
        refine' tk (i := 7) (y := .inl ⟨by rfl, ?y7c⟩) (s := hHeld) (r := ?_)
        case y7c => intro w h; (try dsimp only at h); go_simp; (try with_reducible rfl)
        try simp only [Act.put, List.setIfInBounds_toArray, List.set_cons_zero, List.set_cons_succ]
        refine wpAnyH_ready (rs := [6]) (by kernel_rfl) (by simp) ?_
        refine AllReadyH.cons (List.getElem?_toArray.trans rfl) (fun K hK => ?_) AllReadyH.nil
        go_simp
        go_at_call 19
        refine HQA.out.keys _ _ y1 ?_
        intro va w5 g5 hva
        have y2 : Below W0.heap.size W0 w5 := y1.trans (g5.mono y1.size)
        have HVA := Lib.hid hva
        clear hva g5
        go_wp2_with fail
        refine hK.out _ _ (HK.out _ y2) (fun hHeld => ?_)
        clear hK K
        try simp only [Act.put, List.setIfInBounds_toArray, List.set_cons_zero, List.set_cons_succ]
        refine wpAnyH_ready (rs := [8]) (by kernel_rfl) (by simp) ?_
        refine AllReadyH.cons (List.getElem?_toArray.trans rfl) (fun K hK => ?_) AllReadyH.nil
        go_simp
        go_at_call 19
        refine HQB.out.keys _ _ y2 ?_
        intro vb w6 g6 hvb
        have y3 : Below W0.heap.size W0 w6 := y2.trans (g6.mono y2.size)
        have HVB := Lib.hid hvb
        have G6 := Lib.hid g6
        clear hvb g6
        go_wp2_with fail
        refine hK.out _ _ (HK.out _ y3) (fun hHeld => ?_)
        clear hK K
        try simp only [Act.put, List.setIfInBounds_toArray, List.set_cons_zero, List.set_cons_succ]
        refine wpAnyH_ready (rs := [9]) (by kernel_rfl) (by simp) ?_
        refine AllReadyH.cons (List.getElem?_toArray.trans rfl) (fun K hK => ?_) AllReadyH.nil
        go_simp
        go_at_call 18
        refine sameTexts_k _ _ (fun k => k < w6.heap.size) _ _ (rKeysL d2) (rKeysL d2) (fun k h => h) (SlK.mono strOk (SlK.below strOk (SlK.bnd strOk HVA.out) G6.out (fun k h => h.2)) (fun k h => Nat.lt_of_lt_of_le h.2 G6.out.size)) (SlK.mono strOk (SlK.bnd strOk HVB.out) (fun k h => h.2)) (keys_short HZ.out) (keys_short HZ.out) ?_
        intro w7 g7
        rw [show decide (rKeysL d2 = rKeysL d2) = true by simp]
        have y4 : Below W0.heap.size W0 w7 := y3.trans (g7.mono y3.size)
        clear g7
        go_wp2_with fail
        refine hK.out _ _ (HK.out _ y4) (fun hHeld => ?_)
        clear hK K
        try simp only [Act.put, List.setIfInBounds_toArray, List.set_cons_zero, List.set_cons_succ]
        refine' tk (i := 10) (y := .inl ⟨by rfl, ?y10c⟩) (s := hHeld) (r := ?_)
        case y10c => intro w h; (try dsimp only at h); go_simp; (try with_reducible rfl)
        try simp only [Act.put, List.setIfInBounds_toArray, List.set_cons_zero, List.set_cons_succ]
        refine' tk (i := 11) (y := .inl ⟨by rfl, ?y11c⟩) (s := hHeld) (r := ?_)
        case y11c => intro w h; (try dsimp only at h); go_simp; (try with_reducible rfl)
        try simp only [Act.put, List.setIfInBounds_toArray, List.set_cons_zero, List.set_cons_succ]
        refine wpAnyH_done (by kernel_rfl) ?_ _
        refine NoPanic.normal ?_
        go_wp2_with fail
        go_meet
        exact ⟨rfl, y4⟩
      obtain ⟨rfl, hb7⟩ := hcut
      have HB7 := Lib.hid hb7
      clear hb7
      go_step
      have x4 := (HK.out _ HB7.out).2.2
      go_wp2_with fail
      refine HQB.out.keys _ _ HB7.out ?_
      intro vk w8 g8 hvk
      obtain ⟨Ak, ck, rfl, _, _⟩ := hvk.form
      have HB8 := Lib.hid (HB7.out.trans (g8.mono HB7.out.size))
      have HVK := Lib.hid (show SlK strsK 1 w8 (fun j => j < w8.heap.size) (.slice Ak (rKeysL d2).length ck) (rKeysL d2) from SlK.mono strOk (SlK.bnd strOk hvk) (fun j hj => hj.2))
      have HM8 := Lib.hid (M3.out.mono HB8.out)
      have hkl2 := keys_short HZ.out
      obtain ⟨keys, hkeys⟩ : ∃ keys, keys = rKeysL d2 := ⟨_, rfl⟩
      rw [← hkeys] at HVK hkl2
      rw [← hkeys]
      clear g8 hvk hkeys x4 HB7
      go_wp2_with fail
      refine wp_loopJ (fun a wr => ∃ (i : Nat) (Es : List Nat) (t1 t6 t7 t8 t9 t10 t11 t12 t13 t14 t15 t16 t17 t18 t19 t20 t21 t22 t23 t24 t25 t26 t27 t28 t29 t30 t31 t32 t33 t34 t35 t36 t37 t38 t39 t40 t41 t42 t43 t44 t45 t46 t47 t48 t49 t50 t51 t52 t53 t54 t55 t56 t57 t58 t62 t63 t64 t65 t66 t67 t68 t69 t70 t71 t72 t73 t74 t75 t76 t77 t78 t79 t80 t81 t82 t83 t84 t85 t86 t87 t88 t89 t90 t91 t92 t93 t94 t95 t96 t97 t98 t99 t100 t101 t102 t103 t104 t105 t106 t107 t108 t109 t110 t111 t112 t113 t114 t115 t116 t117 t118 t119 t120 t121 t122 t123 t124 t125 t126 t127 t128 t129 t130 t131 t132 t133 : Value), a = ⟨#[.slice (some ⟨b, off, none⟩) xs.length cx, t1, .pointer (some ⟨B2, 0, none⟩), .pointer (some ⟨B3, 0, none⟩), .pointer (some ⟨B4, 0, none⟩), .int .i64 k, t6, t7, t8, t9, t10, t11, t12, t13, t14, t15, t16, t17, t18, t19, t20, t21, t22, t23, t24, t25, t26, t27, t28, t29, t30, t31, t32, t33, t34, t35, t36, t37, t38, t39, t40, t41, t42, t43, t44, t45, t46, t47, t48, t49, t50, t51, t52, t53, t54, t55, t56, t57, t58, .slice Ak keys.length ck, .int .i64 keys.length, .int .i64 i, t62, t63, t64, t65, t66, t67, t68, t69, t70, t71, t72, t73, t74, t75, t76, t77, t78, t79, t80, t81, t82, t83, t84, t85, t86, t87, t88, t89, t90, t91, t92, t93, t94, t95, t96, t97, t98, t99, t100, t101, t102, t103, t104, t105, t106, t107, t108, t109, t110, t111, t112, t113, t114, t115, t116, t117, t118, t119, t120, t121, t122, t123, t124, t125, t126, t127, t128, t129, t130, t131, t132, t133], Es.map mkD⟩ ∧ i ≤ keys.length ∧ Below w8.heap.size w8 wr ∧ Es.Nodup ∧ (∀ D ∈ Es, D < wr.heap.size ∧ wr.heap[D]? = some (.deferred (some [])) ∧ oa D = none ∧ ob D = none ∧ w.heap.size ≤ D))
        (fun a _ => keys.length - (intOf (a.tmps.getD 61 undef)).toNat) ?atStart2 ?round2
      case atStart2 => exact ⟨0, Ds, _, _, _, _, _, _, _, _, _, _, _, _, _, _, _, _, _, _, _, _, _, _, _, _, _, _, _, _, _, _, _, _, _, _, _, _, _, _, _, _, _, _, _, _, _, _, _, _, _, _, _, _, _, _, _, _, _, _, _, _, _, _, _, _, _, _, _, _, _, _, _, _, _, _, _, _, _, _, _, _, _, _, _, _, _, _, _, _, _, _, _, _, _, _, _, _, _, _, _, _, _, _, _, _, _, _, _, _, _, _, _, _, _, _, _, _, _, _, _, _, _, _, _, _, _, _, rfl, Nat.zero_le _, Below.refl _ _, HN.out, fun D hD => by
        have h1 := (HM8.out.keep (D, .deferred (some [])) (by rw [HL.out]; exact List.mem_append_right _ (List.mem_map.2 ⟨D, hD, rfl⟩)))
        exact ⟨(Array.getElem?_eq_some_iff.1 h1.1).1, h1⟩⟩
      case round2 =>
        intro a we hinv J2 hJ2
        obtain ⟨i, Es, hinv⟩ := hinv
        obtain ⟨t1, hinv⟩ := hinv
        obtain ⟨t6, hinv⟩ := hinv
        obtain ⟨t7, hinv⟩ := hinv
        obtain ⟨t8, hinv⟩ := hinv
        obtain ⟨t9, hinv⟩ := hinv
        obtain ⟨t10, hinv⟩ := hinv
        obtain ⟨t11, hinv⟩ := hinv
        obtain ⟨t12, hinv⟩ := hinv
        obtain ⟨t13, hinv⟩ := hinv
        obtain ⟨t14, hinv⟩ := hinv
        obtain ⟨t15, hinv⟩ := hinv
        obtain ⟨t16, hinv⟩ := hinv
        obtain ⟨t17, hinv⟩ := hinv
        obtain ⟨t18, hinv⟩ := hinv
        obtain ⟨t19, hinv⟩ := hinv
        obtain ⟨t20, hinv⟩ := hinv
        obtain ⟨t21, hinv⟩ := hinv
        obtain ⟨t22, hinv⟩ := hinv
        obtain ⟨t23, hinv⟩ := hinv
        obtain ⟨t24, hinv⟩ := hinv
        obtain ⟨t25, hinv⟩ := hinv
        obtain ⟨t26, hinv⟩ := hinv
        obtain ⟨t27, hinv⟩ := hinv
        obtain ⟨t28, hinv⟩ := hinv
        obtain ⟨t29, hinv⟩ := hinv
        obtain ⟨t30, hinv⟩ := hinv
        obtain ⟨t31, hinv⟩ := hinv
        obtain ⟨t32, hinv⟩ := hinv
        obtain ⟨t33, hinv⟩ := hinv
        obtain ⟨t34, hinv⟩ := hinv
        obtain ⟨t35, hinv⟩ := hinv
        obtain ⟨t36, hinv⟩ := hinv
        obtain ⟨t37, hinv⟩ := hinv
        obtain ⟨t38, hinv⟩ := hinv
        obtain ⟨t39, hinv⟩ := hinv
        obtain ⟨t40, hinv⟩ := hinv
        obtain ⟨t41, hinv⟩ := hinv
        obtain ⟨t42, hinv⟩ := hinv
        obtain ⟨t43, hinv⟩ := hinv
        obtain ⟨t44, hinv⟩ := hinv
        obtain ⟨t45, hinv⟩ := hinv
        obtain ⟨t46, hinv⟩ := hinv
        obtain ⟨t47, hinv⟩ := hinv
        obtain ⟨t48, hinv⟩ := hinv
        obtain ⟨t49, hinv⟩ := hinv
        obtain ⟨t50, hinv⟩ := hinv
        obtain ⟨t51, hinv⟩ := hinv
        obtain ⟨t52, hinv⟩ := hinv
        obtain ⟨t53, hinv⟩ := hinv
        obtain ⟨t54, hinv⟩ := hinv
        obtain ⟨t55, hinv⟩ := hinv
        obtain ⟨t56, hinv⟩ := hinv
        obtain ⟨t57, hinv⟩ := hinv
        obtain ⟨t58, hinv⟩ := hinv
        obtain ⟨t62, hinv⟩ := hinv
        obtain ⟨t63, hinv⟩ := hinv
        obtain ⟨t64, hinv⟩ := hinv
        obtain ⟨t65, hinv⟩ := hinv
        obtain ⟨t66, hinv⟩ := hinv
        obtain ⟨t67, hinv⟩ := hinv
        obtain ⟨t68, hinv⟩ := hinv
        obtain ⟨t69, hinv⟩ := hinv
        obtain ⟨t70, hinv⟩ := hinv
        obtain ⟨t71, hinv⟩ := hinv
        obtain ⟨t72, hinv⟩ := hinv
        obtain ⟨t73, hinv⟩ := hinv
        obtain ⟨t74, hinv⟩ := hinv
        obtain ⟨t75, hinv⟩ := hinv
        obtain ⟨t76, hinv⟩ := hinv
        obtain ⟨t77, hinv⟩ := hinv
        obtain ⟨t78, hinv⟩ := hinv
        obtain ⟨t79, hinv⟩ := hinv
        obtain ⟨t80, hinv⟩ := hinv
        obtain ⟨t81, hinv⟩ := hinv
        obtain ⟨t82, hinv⟩ := hinv
        obtain ⟨t83, hinv⟩ := hinv
        obtain ⟨t84, hinv⟩ := hinv
        obtain ⟨t85, hinv⟩ := hinv
        obtain ⟨t86, hinv⟩ := hinv
        obtain ⟨t87, hinv⟩ := hinv
        obtain ⟨t88, hinv⟩ := hinv
        obtain ⟨t89, hinv⟩ := hinv
        obtain ⟨t90, hinv⟩ := hinv
        obtain ⟨t91, hinv⟩ := hinv
        obtain ⟨t92, hinv⟩ := hinv
        obtain ⟨t93, hinv⟩ := hinv
        obtain ⟨t94, hinv⟩ := hinv
        obtain ⟨t95, hinv⟩ := hinv
        obtain ⟨t96, hinv⟩ := hinv
        obtain ⟨t97, hinv⟩ := hinv
        obtain ⟨t98, hinv⟩ := hinv
        obtain ⟨t99, hinv⟩ := hinv
        obtain ⟨t100, hinv⟩ := hinv
        obtain ⟨t101, hinv⟩ := hinv
        obtain ⟨t102, hinv⟩ := hinv
        obtain ⟨t103, hinv⟩ := hinv
        obtain ⟨t104, hinv⟩ := hinv
        obtain ⟨t105, hinv⟩ := hinv
        obtain ⟨t106, hinv⟩ := hinv
        obtain ⟨t107, hinv⟩ := hinv
        obtain ⟨t108, hinv⟩ := hinv
        obtain ⟨t109, hinv⟩ := hinv
        obtain ⟨t110, hinv⟩ := hinv
        obtain ⟨t111, hinv⟩ := hinv
        obtain ⟨t112, hinv⟩ := hinv
        obtain ⟨t113, hinv⟩ := hinv
        obtain ⟨t114, hinv⟩ := hinv
        obtain ⟨t115, hinv⟩ := hinv
        obtain ⟨t116, hinv⟩ := hinv
        obtain ⟨t117, hinv⟩ := hinv
        obtain ⟨t118, hinv⟩ := hinv
        obtain ⟨t119, hinv⟩ := hinv
        obtain ⟨t120, hinv⟩ := hinv
        obtain ⟨t121, hinv⟩ := hinv
        obtain ⟨t122, hinv⟩ := hinv
        obtain ⟨t123, hinv⟩ := hinv
        obtain ⟨t124, hinv⟩ := hinv
        obtain ⟨t125, hinv⟩ := hinv
        obtain ⟨t126, hinv⟩ := hinv
        obtain ⟨t127, hinv⟩ := hinv
        obtain ⟨t128, hinv⟩ := hinv
        obtain ⟨t129, hinv⟩ := hinv
        obtain ⟨t130, hinv⟩ := hinv
        obtain ⟨t131, hinv⟩ := hinv
        obtain ⟨t132, hinv⟩ := hinv
        obtain ⟨t133, hinv⟩ := hinv
        obtain ⟨ha_, hi, B0, N0, E0⟩ := hinv
        subst ha_
        try dsimp only
        have HJ2 := Lib.hid hJ2
        clear hJ2
        have HBE := Lib.hid B0
        have HNE := Lib.hid N0
        have HEE := Lib.hid E0
        clear B0 N0 E0
        by_cases hil : i < keys.length
        · have MW := Lib.hid (HM8.out.mono HBE.out)
          obtain ⟨bk, offk, c2, he2, _, _, hbk2, hbl2, hce2⟩ := (SlK.below strOk HVK.out HBE.out (fun j hj => hj)).addr (by omega)
          simp only [Value.slice.injEq] at he2
          obtain ⟨rfl, -, rfl⟩ := he2
          obtain ⟨key, hkey⟩ : ∃ key, keys[i]'hil = key := ⟨_, rfl⟩
          have ck0 : we.cell? ⟨bk, offk + i, none⟩ = some (.string key) := by
            obtain ⟨cs1, hc1, _, hc2⟩ := hce2 i hil
            cases hc1
            rw [← hkey]
            simpa using hc2 0 _ rfl
          clear hce2 hkey
          obtain ⟨B8, hB8⟩ : ∃ B8, B8 = we.heap.size := ⟨_, rfl⟩
          have e8 : ((((we.alloc (.cells #[.string key] 9)).alloc (.cells #[.int .i64 0] 3)).alloc (.cells #[.slice none 0 0] 61)).alloc (.cells #[.slice none 0 0] 43)).heap[B8]? = some (.cells #[.string key] 9) := by rw [hB8]; exact heap_keep (heap_keep (heap_keep (heap_alloc_new _ _) _) _) _
          obtain ⟨B9, hB9⟩ : ∃ B9, B9 = B8 + 1 := ⟨_, rfl⟩
          obtain ⟨B10, hB10⟩ : ∃ B10, B10 = B8 + 1 + 1 := ⟨_, rfl⟩
          obtain ⟨B11, hB11⟩ : ∃ B11, B11 = B8 + 1 + 1 + 1 := ⟨_, rfl⟩
          have e9 : ((((we.alloc (.cells #[.string key] 9)).alloc (.cells #[.int .i64 0] 3)).alloc (.cells #[.slice none 0 0] 61)).alloc (.cells #[.slice none 0 0] 43)).heap[B9]? = some (.cells #[.int .i64 0] 3) := by
            rw [hB9, hB8]
            have := heap_alloc_new (we.alloc (.cells #[.string key] 9)) (.cells #[.int .i64 0] 3)
            rw [World.size_alloc] at this
            exact heap_keep (heap_keep this _) _
          have e10 : ((((we.alloc (.cells #[.string key] 9)).alloc (.cells #[.int .i64 0] 3)).alloc (.cells #[.slice none 0 0] 61)).alloc (.cells #[.slice none 0 0] 43)).heap[B10]? = some (.cells #[.slice none 0 0] 61) := by
            rw [hB10, hB8]
            have := heap_alloc_new ((we.alloc (.cells #[.string key] 9)).alloc (.cells #[.int .i64 0] 3)) (.cells #[.slice none 0 0] 61)
            rw [World.size_alloc, World.size_alloc] at this
            exact heap_keep this _
          have e11 : ((((we.alloc (.cells #[.string key] 9)).alloc (.cells #[.int .i64 0] 3)).alloc (.cells #[.slice none 0 0] 61)).alloc (.cells #[.slice none 0 0] 43)).heap[B11]? = some (.cells #[.slice none 0 0] 43) := by
            rw [hB11, hB8]
            have := heap_alloc_new (((we.alloc (.cells #[.string key] 9)).alloc (.cells #[.int .i64 0] 3)).alloc (.cells #[.slice none 0 0] 61)) (.cells #[.slice none 0 0] 43)
            rwa [World.size_alloc, World.size_alloc, World.size_alloc] at this
          have hWD : Below we.heap.size we ((((we.alloc (.cells #[.string key] 9)).alloc (.cells #[.int .i64 0] 3)).alloc (.cells #[.slice none 0 0] 61)).alloc (.cells #[.slice none 0 0] 43)) := Below.alloc (Below.alloc (Below.alloc (Below.alloc (Below.refl _ _) (Nat.le_refl _) _) (by simp) _) (by simp; omega) _) (by simp; omega) _
          have hszd : ((((we.alloc (.cells #[.string key] 9)).alloc (.cells #[.int .i64 0] 3)).alloc (.cells #[.slice none 0 0] 61)).alloc (.cells #[.slice none 0 0] 43)).heap.size = B8 + 4 := by rw [hB8]; simp
          go_upto_region 22 with fail
          rw [← hB8]
          try rw [← hB11]
          try rw [← hB10]
          try rw [← hB9]
          have o9 : B8 < B9 := by omega
          have o10 : B9 < B10 := by omega
          have o11 : B10 < B11 := by omega
          have o12 : B11 < ((((we.alloc (.cells #[.string key] 9)).alloc (.cells #[.int .i64 0] 3)).alloc (.cells #[.slice none 0 0] 61)).alloc (.cells #[.slice none 0 0] 43)).heap.size := by omega
          clear hB9 hB10 hB11 hszd
          generalize hWDe : (((we.alloc (.cells #[.string key] 9)).alloc (.cells #[.int .i64 0] 3)).alloc (.cells #[.slice none 0 0] 61)).alloc (.cells #[.slice none 0 0] 43) = wd at *
          clear hWDe
          have HWD := Lib.hid hWD
          have HB8E := Lib.hid hB8
          have E8 := Lib.hid e8
          have E9 := Lib.hid e9
          have E10 := Lib.hid e10
          have E11 := Lib.hid e11
          have K3 := Lib.hid ((MW.out.mono HWD.out).keep (B3, .cells #[.pointer (some ⟨ha.d, 0, none⟩)] 24) (by rw [HL.out]; simp))
          have K4 := Lib.hid ((MW.out.mono HWD.out).keep (B4, .cells #[.pointer (some ⟨hb.d, 0, none⟩)] 24) (by rw [HL.out]; simp))
          have K2 := Lib.hid ((MW.out.mono HWD.out).keep (B2, .cells #[.bool false] 4) (by rw [HL.out]; simp))
          have l2 : B2 < B8 := by
            have := (Array.getElem?_eq_some_iff.1 (MW.out.keep (B2, .cells #[.bool false] 4) (by rw [HL.out]; simp)).1).1
            rw [hB8]; exact this
          have l3 : B3 < B8 := by
            have := (Array.getElem?_eq_some_iff.1 (MW.out.keep (B3, .cells #[.pointer (some ⟨ha.d, 0, none⟩)] 24) (by rw [HL.out]; simp)).1).1
            rw [hB8]; exact this
          have l4 : B4 < B8 := by
            have := (Array.getElem?_eq_some_iff.1 (MW.out.keep (B4, .cells #[.pointer (some ⟨hb.d, 0, none⟩)] 24) (by rw [HL.out]; simp)).1).1
            rw [hB8]; exact this
          have HBW := Lib.hid (show Below W0.heap.size W0 wd from HB8.out.trans ((HBE.out.trans (HWD.out.mono HBE.out.size)).mono HB8.out.size))
          have hs8 := HB8.out.size
          have hse := HBE.out.size
          have hsb := HBW.out.size
          have x3 : wd.cell? ⟨B3, 0, none⟩ = some (.pointer (some ⟨ha.d, 0, none⟩)) := cell_at K3.out.1 rfl
          have x8 : wd.cell? ⟨B8, 0, none⟩ = some (.string key) := cell_at E8.out rfl
          clear hWD hB8 e8 e9 e10 e11 ck0
          go_wp2_with fail
          refine HQA.out.values _ _ key HBW.out ?_
          intro B1 Bn vs ns wf gf hr hln hvl hz
          have HGF := Lib.hid gf
          have HZ1 := Lib.hid hz
          have HLN := Lib.hid hln
          obtain ⟨sv, nv, hA1, hA2, hA3, hA4, hc1, hc2, hI1, hI2⟩ := hr
          have hsf := gf.size
          have zz : (vs.zip ns).length = vs.length := by rw [List.length_zip, hln]; simp
          clear gf hz x3 x8
          go_wp2_with fail
          refine (wpIn_wide (n := 6)).1 ?_
          refine' wpIn_rangeFunc_ownG (α := ByteArray × Int) (F := Fence.wide) (n := 6) rfl (by decide) (gf := 156) (lb := #[.pointer (some ⟨B1, 0, none⟩), .pointer (some ⟨Bn, 0, none⟩)]) rfl trivial (enters_of Tryz.func156 (by kernel_rfl) rfl)
            (rows_stops Fence.wide 5 trivial rfl (by decide) wd.heap.size B1 Bn sv nv vs ns hln (by omega) wf ⟨hA1, hA2⟩ ⟨hA3, hA4⟩ hc1 hc2 hI1 hI2) (fun {A B C} h k => KeepB.trans h k) (fun W l o o' hl h h1 h2 => keepB_b (w := wf) (Nat.le_refl _) W l o o' hl h h1 h2) (Below.refl _ _) (fun _ => rfl)
            (GotI wf B10 B11) (fun _ _ _ => False) (gotI_own (Nat.le_refl _)) (fun _ _ _ _ _ hs _ _ => hs) ?g0 _ ?gassign ?gbody ?gdone ?gstop
          case g0 => exact ⟨.slice none 0 0, .slice none 0 0, HGF.out.keep_ E10.out, HGF.out.keep_ E11.out, OwnK.nil (fun _ h => h.elim), OwnK.nil (fun _ h => h.elim), fun _ h => by simp [Value.ownBlock] at h, Mod.refl _ _⟩
          case gassign =>
            intro l0 x W K hK
            gi_wp2
            exact hK
          case gstop =>
            intro D c pre W hD hSp hIx
            exact hIx.elim
          case gbody =>
            intro l0 pre x W hI hlen
            obtain ⟨gv, cv, v1, q1, v2, q3, ⟨Av1, nv1, cv1, rfl⟩, ⟨Av2, nv2, cv2, rfl⟩, c1, r1, c2, f2, c3, r2, c4, f4, hG, hs, hkp, hold⟩ := got_step hI x (by omega) (by omega) (by omega) (by omega)
            have HG2 := Lib.hid hG
            have HKP := Lib.hid hkp
            have HOLD := Lib.hid hold
            have r1' := r1 61
            have r2' := r2 43
            obtain ⟨xv, xn⟩ := x
            clear hG hkp hold hI r1 r2
            gi_wp2_with (first
              | (gi_at_builtin; refine wpListIn_appendR rfl _ _ 61 rfl _ _ _ rfl rfl r1' ?_)
              | (gi_at_builtin; refine wpListIn_appendR rfl _ _ 43 rfl _ _ _ rfl rfl r2' ?_))
            exact ⟨⟨hs, fun j o hj hk0 ho => HKP.out j o hk0 ho⟩, ⟨hs, fun j h1 h2 _ => HOLD.out j h2 (by omega) (by omega)⟩, HG2.out⟩
          case gdone =>
            rintro D1 zs0 wg hD1 rfl hGot hK1
            obtain ⟨gv, cv, h10, h11, hgk, hck, hdis, hMg⟩ := hGot
            obtain ⟨zs, hzs⟩ : ∃ zs, zs = vs.zip ns := ⟨_, rfl⟩
            rw [← hzs] at hgk hck
            have HZS := Lib.hid hzs
            have hzl : zs.length = vs.length := by rw [hzs]; exact zz
            clear hzs zz
            have hsg := hMg.size
            have HMG := Lib.hid hMg
            have e8g := hMg.keep (HGF.out.keep_ E8.out) (by omega)
            have e9g := hMg.keep (HGF.out.keep_ E9.out) (by omega)
            have k2g := hMg.keep (HGF.out.keep_ K2.out.1) (by omega)
            have k3g := hMg.keep (HGF.out.keep_ K3.out.1) (by omega)
            have k4g := hMg.keep (HGF.out.keep_ K4.out.1) (by omega)
            have HE8 := Lib.hid e8g
            have HE9 := Lib.hid e9g
            have HK2 := Lib.hid k2g
            have HK3 := Lib.hid k3g
            have HK4 := Lib.hid k4g
            have H10 := Lib.hid h10
            have H11 := Lib.hid h11
            have HGK := Lib.hid hgk
            have HCK := Lib.hid hck
            have HK1 := Lib.hid hK1
            have hwe : B8 = we.heap.size := HB8E.out
            have hsd := HWD.out.size
            have HBG := Lib.hid (show Below W0.heap.size W0 wg from (HBW.out.trans (HGF.out.mono hsb)).trans (hMg.below (by omega) (fun k e => by omega)))
            have x4 : wg.cell? ⟨B4, 0, none⟩ = some (.pointer (some ⟨hb.d, 0, none⟩)) := cell_at HK4.out rfl
            have x8 : wg.cell? ⟨B8, 0, none⟩ = some (.string key) := cell_at HE8.out rfl
            have HWE := Lib.hid hwe
            clear e8g e9g k2g k3g k4g h10 h11 hgk hck hdis hMg hK1 hwe
            go_wp2_with fail
            refine HQB.out.values _ _ key HBG.out ?_
            intro B1' Bn' vs2 ns2 wh gh hr2 hln2 hvl2 hz2
            have HGH := Lib.hid gh
            have hzz : vs2.zip ns2 = zs := (hz2.trans HZ1.out.symm).trans HZS.out.symm
            have HZZ := Lib.hid hzz
            have hzl2 : (vs2.zip ns2).length = zs.length := by rw [hzz]
            obtain ⟨sv2, nv2, hA1', hA2', hA3', hA4', hc1', hc2', hI1', hI2'⟩ := hr2
            have hsh := gh.size
            have l9h : B9 < wh.heap.size := by omega
            clear gh hz2 x4 x8 hzz
            go_wp2_with fail
            refine (wpIn_wide (n := 6)).1 ?_
            refine' wpIn_rangeFunc_ownG (α := ByteArray × Int) (F := Fence.wide) (n := 6) rfl (by decide) (gf := 156) (lb := #[.pointer (some ⟨B1', 0, none⟩), .pointer (some ⟨Bn', 0, none⟩)]) rfl trivial (enters_of Tryz.func156 (by kernel_rfl) rfl)
              (rows_stops Fence.wide 5 trivial rfl (by decide) wg.heap.size B1' Bn' sv2 nv2 vs2 ns2 hln2 (by omega) wh ⟨hA1', hA2'⟩ ⟨hA3', hA4'⟩ hc1' hc2' hI1' hI2') (fun {A B C} h k => KeepB.trans h k) (fun W l o o' hl h h1 h2 => keepB_b (w := wh) (Nat.le_refl _) W l o o' hl h h1 h2) (Below.refl _ _) (fun _ => rfl)
              (NextI wh B9 zs) (fun _ pre _ => ¬ pre <+: zs) (nextI_own (Nat.le_refl _) l9h) (fun _ _ _ _ _ hs _ _ => hs) ?n0 _ ?nassign ?nbody ?ndone ?nstop
            case n0 => exact ⟨List.nil_prefix, Mod.refl _ _, HGH.out.keep_ HE9.out⟩
            case nassign =>
              intro l0 x W K hK
              gi_wp2
              exact hK
            case nstop =>
              intro D c pre W hD hSp hIx
              exact absurd (by rw [← HZZ.out]; exact hSp) hIx
            case nbody =>
              intro l0 pre x W hI hlen
              obtain ⟨hp, hM, hc⟩ := hI
              have hplt : pre.length < zs.length := by omega
              have hsW := hM.size
              obtain ⟨hnext, hstop⟩ := prefix_next (x := x) hp hplt
              obtain ⟨rv, rn, hrow⟩ : ∃ rv rn, zs[pre.length]'hplt = (rv, rn) := ⟨_, _, rfl⟩
              -- the two lists
              have gsl := hidown HGK.out strOk HGH.out hM (.inl trivial) (fun k hk => by have := (HGK.out.own k hk).1; omega)
              have csl := hidown HCK.out intOk HGH.out hM (.inl trivial) (fun k hk => by have := (HCK.out.own k hk).1; omega)
              obtain ⟨bg, og, cg, hge, _, _, _, _, hgce⟩ := gsl.addr (by rw [List.length_map]; omega)
              obtain ⟨bc, oc, cc, hce3, _, _, _, _, hcce⟩ := csl.addr (by rw [List.length_map]; omega)
              have yg : W.cell? ⟨bg, og + pre.length, none⟩ = some (.string rv) := by
                obtain ⟨cs1, hc1, _, hc2⟩ := hgce pre.length (by rw [List.length_map]; omega)
                cases hc1
                have := hc2 0 _ rfl
                simp only [List.getElem_map, hrow] at this
                simpa using this
              have yc : W.cell? ⟨bc, oc + pre.length, none⟩ = some (.int .i64 rn) := by
                obtain ⟨cs1, hc1, _, hc2⟩ := hcce pre.length (by rw [List.length_map]; omega)
                cases hc1
                have := hc2 0 _ rfl
                simp only [List.getElem_map, hrow] at this
                simpa using this
              rw [List.length_map] at hge hce3
              clear hgce hcce gsl csl
              have y2 : W.cell? ⟨B2, 0, none⟩ = some (.bool false) := cell_at (hM.keep (HGH.out.keep_ HK2.out) (by omega)) rfl
              have f2 : W.frozen? ⟨B2, 0, none⟩ = false := frozen_at (hM.keep (HGH.out.keep_ HK2.out) (by omega))
              have y3 : W.cell? ⟨B3, 0, none⟩ = some (.pointer (some ⟨ha.d, 0, none⟩)) := cell_at (hM.keep (HGH.out.keep_ HK3.out) (by omega)) rfl
              have y4 : W.cell? ⟨B4, 0, none⟩ = some (.pointer (some ⟨hb.d, 0, none⟩)) := cell_at (hM.keep (HGH.out.keep_ HK4.out) (by omega)) rfl
              have y8 : W.cell? ⟨B8, 0, none⟩ = some (.string key) := cell_at (hM.keep (HGH.out.keep_ HE8.out) (by omega)) rfl
              have y9 : W.cell? ⟨B9, 0, none⟩ = some (.int .i64 (pre.length : Nat)) := cell_at hc rfl
              have y10 : W.cell? ⟨B10, 0, none⟩ = some (.slice (some ⟨bg, og, none⟩) zs.length cg) := by
                rw [← hge]
                exact cell_at (hM.keep (HGH.out.keep_ H10.out) (by omega)) rfl
              have y11 : W.cell? ⟨B11, 0, none⟩ = some (.slice (some ⟨bc, oc, none⟩) zs.length cc) := by
                rw [← hce3]
                exact cell_at (hM.keep (HGH.out.keep_ H11.out) (by omega)) rfl
              have HKW := Lib.hid (show ∀ W', Below W.heap.size W W' → Below W.heap.size W W' ∧ W'.cell? ⟨B3, 0, none⟩ = some (.pointer (some ⟨ha.d, 0, none⟩)) ∧ W'.cell? ⟨B4, 0, none⟩ = some (.pointer (some ⟨hb.d, 0, none⟩)) ∧ W'.cell? ⟨B8, 0, none⟩ = some (.string key) ∧ W'.cell? ⟨B9, 0, none⟩ = some (.int .i64 (pre.length : Nat)) ∧ W'.cell? ⟨B10, 0, none⟩ = some (.slice (some ⟨bg, og, none⟩) zs.length cg) ∧ W'.cell? ⟨B11, 0, none⟩ = some (.slice (some ⟨bc, oc, none⟩) zs.length cc) ∧ W'.cell? ⟨bg, og + pre.length, none⟩ = some (.string rv) ∧ W'.cell? ⟨bc, oc + pre.length, none⟩ = some (.int .i64 rn) from
                fun W' hW => ⟨hW, (Mod.of_below hW).cell' y3 (fun h => h), (Mod.of_below hW).cell' y4 (fun h => h), (Mod.of_below hW).cell' y8 (fun h => h), (Mod.of_below hW).cell' y9 (fun h => h), (Mod.of_below hW).cell' y10 (fun h => h), (Mod.of_below hW).cell' y11 (fun h => h), (Mod.of_below hW).cell' yg (fun h => h), (Mod.of_below hW).cell' yc (fun h => h)⟩)
              have YW := Lib.hid (Below.refl W.heap.size W).drew
              have HBX := Lib.hid (show Below W0.heap.size W0 W from (HBG.out.trans (HGH.out.mono HBG.out.size)).trans (hM.below (by have := HBG.out.size; omega) (fun k e => by have := HWE.out; omega)))
              have HM := Lib.hid hM
              have HC := Lib.hid hc
              have hgeq : decide ((zs.length : Int) ≤ (pre.length : Int)) = false := by simp; omega
              have hgen : decide (zs.length ≤ pre.length) = false := by simp; omega
              have hcast : ((pre.length : Nat) : Int) < (zs.length : Int) := by omega
              have hcast0 : (0 : Int) ≤ ((pre.length : Nat) : Int) := by omega
              rw [hrow] at hnext hstop
              have HNEXT := Lib.hid hnext
              have HSTOP := Lib.hid hstop
              obtain ⟨xv, xn⟩ := x
              have hpl6 : pre.length ≤ 1048576 := by omega
              clear hnext hstop hM hc hp hrow hge hce3 hlen hzl hzl2
              by_cases hx1 : xv = rv
              · subst hx1
                by_cases hx2 : xn = rn
                · subst hx2
                  gi_wp2
                  have hgeq : decide ((zs.length : Int) ≤ (pre.length : Int)) = false := by simp; omega
                  have hgen : decide (zs.length ≤ pre.length) = false := by simp; omega
                  have hgei : ((zs.length : Int) ≤ (pre.length : Int)) = False := by simp; omega
                  have hgnn : (zs.length ≤ pre.length) = False := by simp; omega
                  refine region_round (S := fun W' => Below W.heap.size W W' ∧ W'.cell? ⟨B3, 0, none⟩ = some (.pointer (some ⟨ha.d, 0, none⟩)) ∧ W'.cell? ⟨B4, 0, none⟩ = some (.pointer (some ⟨hb.d, 0, none⟩)) ∧ W'.cell? ⟨B8, 0, none⟩ = some (.string key) ∧ W'.cell? ⟨B9, 0, none⟩ = some (.int .i64 (pre.length : Nat)) ∧ W'.cell? ⟨B10, 0, none⟩ = some (.slice (some ⟨bg, og, none⟩) zs.length cg) ∧ W'.cell? ⟨B11, 0, none⟩ = some (.slice (some ⟨bc, oc, none⟩) zs.length cc) ∧ W'.cell? ⟨bg, og + pre.length, none⟩ = some (.string xv) ∧ W'.cell? ⟨bc, oc + pre.length, none⟩ = some (.int .i64 xn)) (by kernel_rfl) (by kernel_rfl) (by rintro ⟨_, _, h⟩; exact h) (HKW.out _ YW.out) (fun hHeld => ?_)
                  refine' tk (i := 0) (y := .inl ⟨by rfl, ?y0na⟩) (s := hHeld) (r := ?_)
                  case y0na => intro w h; (try dsimp only at h); go_simp; (try with_reducible rfl)
                  try simp only [Act.put, List.setIfInBounds_toArray, List.set_cons_zero, List.set_cons_succ]
                  refine' tk (i := 1) (y := .inl ⟨by rfl, ?y1na⟩) (s := hHeld) (r := ?_)
                  case y1na => intro w h; (try dsimp only at h); go_simp; (try with_reducible rfl)
                  try simp only [Act.put, List.setIfInBounds_toArray, List.set_cons_zero, List.set_cons_succ]
                  refine' tk (i := 2) (y := .inl ⟨by rfl, ?y2na⟩) (s := hHeld) (r := ?_)
                  case y2na => intro w h; (try dsimp only at h); go_simp; (try with_reducible rfl)
                  try simp only [Act.put, List.setIfInBounds_toArray, List.set_cons_zero, List.set_cons_succ]
                  refine' tk (i := 3) (y := .inl ⟨by rfl, ?y3na⟩) (s := hHeld) (r := ?_)
                  case y3na => intro w h; (try dsimp only at h); go_simp; (try with_reducible rfl)
                  try simp only [Act.put, List.setIfInBounds_toArray, List.set_cons_zero, List.set_cons_succ]
                  refine' tk (i := 4) (y := .inl ⟨by rfl, ?y4na⟩) (s := hHeld) (r := ?_)
                  case y4na => intro w h; (try dsimp only at h); go_simp; (try with_reducible rfl)
                  try simp only [Act.put, List.setIfInBounds_toArray, List.set_cons_zero, List.set_cons_succ]
                  refine' tk (i := 5) (y := .inl ⟨by rfl, ?y5na⟩) (s := hHeld) (r := ?_)
                  case y5na => intro w h; (try dsimp only at h); go_simp; (try with_reducible rfl)
                  try simp only [Act.put, List.setIfInBounds_toArray, List.set_cons_zero, List.set_cons_succ]
                  refine' tk (i := 6) (y := .inl ⟨by rfl, ?y6na⟩) (s := hHeld) (r := ?_)
                  case y6na => intro w h; (try dsimp only at h); go_simp; (try with_reducible rfl)
                  try simp only [Act.put, List.setIfInBounds_toArray, List.set_cons_zero, List.set_cons_succ]
                  refine' tk (i := 7) (y := .inl ⟨by rfl, ?y7na⟩) (s := hHeld) (r := ?_)
                  case y7na => intro w h; (try dsimp only at h); go_simp; (try with_reducible rfl)
                  try simp only [Act.put, List.setIfInBounds_toArray, List.set_cons_zero, List.set_cons_succ]
                  refine' tk (i := 8) (y := .inl ⟨by rfl, ?y8na⟩) (s := hHeld) (r := ?_)
                  case y8na => intro w h; (try dsimp only at h); go_simp; (try with_reducible rfl)
                  try simp only [Act.put, List.setIfInBounds_toArray, List.set_cons_zero, List.set_cons_succ]
                  refine' tk (i := 9) (y := .inl ⟨by rfl, ?y9na⟩) (s := hHeld) (r := ?_)
                  case y9na => intro w h; (try dsimp only at h); go_simp; (try with_reducible rfl)
                  try simp only [Act.put, List.setIfInBounds_toArray, List.set_cons_zero, List.set_cons_succ]
                  refine' tk (i := 10) (y := .inl ⟨by rfl, ?y10na⟩) (s := hHeld) (r := ?_)
                  case y10na => intro w h; (try dsimp only at h); go_simp; (try with_reducible rfl)
                  try simp only [Act.put, List.setIfInBounds_toArray, List.set_cons_zero, List.set_cons_succ]
                  refine' tk (i := 11) (y := .inl ⟨by rfl, ?y11na⟩) (s := hHeld) (r := ?_)
                  case y11na => intro w h; (try dsimp only at h); go_simp; (try with_reducible rfl)
                  try simp only [Act.put, List.setIfInBounds_toArray, List.set_cons_zero, List.set_cons_succ]
                  refine' tk (i := 12) (y := .inl ⟨by rfl, ?y12na⟩) (s := hHeld) (r := ?_)
                  case y12na => intro w h; (try dsimp only at h); go_simp; (try with_reducible rfl)
                  try simp only [Act.put, List.setIfInBounds_toArray, List.set_cons_zero, List.set_cons_succ]
                  refine' tk (i := 13) (y := .inl ⟨by rfl, ?y13na⟩) (s := hHeld) (r := ?_)
                  case y13na => intro w h; (try dsimp only at h); go_simp; (try with_reducible rfl)
                  try simp only [Act.put, List.setIfInBounds_toArray, List.set_cons_zero, List.set_cons_succ]
                  refine' tk (i := 14) (y := .inl ⟨by rfl, ?y14na⟩) (s := hHeld) (r := ?_)
                  case y14na => intro w h; (try dsimp only at h); go_simp; (try with_reducible rfl)
                  try simp only [Act.put, List.setIfInBounds_toArray, List.set_cons_zero, List.set_cons_succ]
                  refine' tk (i := 15) (y := .inl ⟨by rfl, ?y15na⟩) (s := hHeld) (r := ?_)
                  case y15na => intro w h; (try dsimp only at h); go_simp; (try with_reducible rfl)
                  try simp only [Act.put, List.setIfInBounds_toArray, List.set_cons_zero, List.set_cons_succ]
                  refine' tk (i := 16) (y := .inl ⟨by rfl, ?y16na⟩) (s := hHeld) (r := ?_)
                  case y16na => intro w h; (try dsimp only at h); go_simp; (try with_reducible rfl)
                  try simp only [Act.put, List.setIfInBounds_toArray, List.set_cons_zero, List.set_cons_succ]
                  refine' tk (i := 17) (y := .inl ⟨by rfl, ?y17na⟩) (s := hHeld) (r := ?_)
                  case y17na => intro w h; (try dsimp only at h); go_simp; (try with_reducible rfl)
                  try simp only [Act.put, List.setIfInBounds_toArray, List.set_cons_zero, List.set_cons_succ]
                  refine' tk (i := 18) (y := .inl ⟨by rfl, ?y18na⟩) (s := hHeld) (r := ?_)
                  case y18na => intro w h; (try dsimp only at h); go_simp; (try with_reducible rfl)
                  try simp only [Act.put, List.setIfInBounds_toArray, List.set_cons_zero, List.set_cons_succ]
                  refine' tk (i := 19) (y := .inl ⟨by rfl, ?y19na⟩) (s := hHeld) (r := ?_)
                  case y19na => intro w h; (try dsimp only at h); go_simp; (try with_reducible rfl)
                  try simp only [Act.put, List.setIfInBounds_toArray, List.set_cons_zero, List.set_cons_succ]
                  refine' tk (i := 20) (y := .inl ⟨by rfl, ?y20na⟩) (s := hHeld) (r := ?_)
                  case y20na => intro w h; (try dsimp only at h); go_simp; (try with_reducible rfl)
                  try simp only [Act.put, List.setIfInBounds_toArray, List.set_cons_zero, List.set_cons_succ]
                  refine' tk (i := 21) (y := .inl ⟨by rfl, ?y21na⟩) (s := hHeld) (r := ?_)
                  case y21na => intro w h; (try dsimp only at h); go_simp; (try with_reducible rfl)
                  try simp only [Act.put, List.setIfInBounds_toArray, List.set_cons_zero, List.set_cons_succ]
                  refine' tk (i := 22) (y := .inl ⟨by rfl, ?y22na⟩) (s := hHeld) (r := ?_)
                  case y22na => intro w h; (try dsimp only at h); go_simp; (try with_reducible rfl)
                  try simp only [Act.put, List.setIfInBounds_toArray, List.set_cons_zero, List.set_cons_succ]
                  refine' tk (i := 23) (y := .inl ⟨by rfl, ?y23na⟩) (s := hHeld) (r := ?_)
                  case y23na => intro w h; (try dsimp only at h); go_simp; (try with_reducible rfl)
                  try simp only [Act.put, List.setIfInBounds_toArray, List.set_cons_zero, List.set_cons_succ]
                  refine' tk (i := 25) (y := .inl ⟨by rfl, ?y25na⟩) (s := hHeld) (r := ?_)
                  case y25na => intro w h; (try dsimp only at h); go_simp; (try with_reducible rfl)
                  try simp only [Act.put, List.setIfInBounds_toArray, List.set_cons_zero, List.set_cons_succ]
                  refine' tk (i := 26) (y := .inl ⟨by rfl, ?y26na⟩) (s := hHeld) (r := ?_)
                  case y26na => intro w h; (try dsimp only at h); go_simp; (try with_reducible rfl)
                  try simp only [Act.put, List.setIfInBounds_toArray, List.set_cons_zero, List.set_cons_succ]
                  refine' tk (i := 27) (y := .inl ⟨by rfl, ?y27na⟩) (s := hHeld) (r := ?_)
                  case y27na => intro w h; (try dsimp only at h); go_simp; (try with_reducible rfl)
                  try simp only [Act.put, List.setIfInBounds_toArray, List.set_cons_zero, List.set_cons_succ]
                  refine wpAnyH_ready (rs := [24]) (by kernel_rfl) (by simp) ?_
                  refine AllReadyH.cons (List.getElem?_toArray.trans rfl) (fun K hK => ?_) AllReadyH.nil
                  go_simp
                  go_at_call 22
                  refine HQA.out.nodes _ _ key xv (HBX.out.trans (YW.out.mono HBX.out.size)) ?_
                  intro s1 b1 ws1 w1 g1 _ _ hS1 hm1
                  have z1 : Below W.heap.size W w1 := Below.of_drew g1
                  have HS1 := Lib.hid hS1
                  have HM1 := Lib.hid hm1
                  have G1 := Lib.hid g1
                  clear hS1 hm1 g1
                  go_wp2_with fail
                  refine hK.out _ _ (HKW.out _ z1) (fun hHeld => ?_)
                  clear hK K
                  try simp only [Act.put, List.setIfInBounds_toArray, List.set_cons_zero, List.set_cons_succ]
                  refine wpAnyH_ready (rs := [28]) (by kernel_rfl) (by simp) ?_
                  refine AllReadyH.cons (List.getElem?_toArray.trans rfl) (fun K hK => ?_) AllReadyH.nil
                  go_simp
                  go_at_call 22
                  refine HQB.out.nodes _ _ key xv (HBX.out.trans (z1.mono HBX.out.size)) ?_
                  intro s2 b2 ws2 w2 g2 _ _ hS2 hm2
                  have z2 : Below W.heap.size W w2 := z1.trans (g2.mono z1.size)
                  have HS2 := Lib.hid hS2
                  have HM2 := Lib.hid hm2
                  have G2 := Lib.hid g2
                  clear hS2 hm2 g2
                  go_wp2_with fail
                  refine hK.out _ _ (HKW.out _ z2) (fun hHeld => ?_)
                  clear hK K
                  try simp only [Act.put, List.setIfInBounds_toArray, List.set_cons_zero, List.set_cons_succ]
                  refine wpAnyH_ready (rs := [29]) (by kernel_rfl) (by simp) ?_
                  refine AllReadyH.cons (List.getElem?_toArray.trans rfl) (fun K hK => ?_) AllReadyH.nil
                  go_simp
                  go_at_call 21
                  have hw1 := sets_same (m := 8) HS1.out HS2.out rfl (HM1.out.trans HM2.out.symm)
                  refine bequal_k _ _ s1 b1 s2 b2 512 ws1 (HS1.out.move (G2.out.block _ HS1.out.lt.1) (G2.out.block _ HS1.out.lt.2)) (by rw [hw1]; exact HS2.out) ?_
                  clear hw1
                  go_wp2_with fail
                  refine hK.out _ _ (HKW.out _ z2) (fun hHeld => ?_)
                  clear hK K
                  try simp only [Act.put, List.setIfInBounds_toArray, List.set_cons_zero, List.set_cons_succ]
                  refine' tk (i := 30) (y := .inl ⟨by rfl, ?y30na⟩) (s := hHeld) (r := ?_)
                  case y30na => intro w h; (try dsimp only at h); go_simp; (try with_reducible rfl)
                  try simp only [Act.put, List.setIfInBounds_toArray, List.set_cons_zero, List.set_cons_succ]
                  refine' tk (i := 31) (y := .inl ⟨by rfl, ?y31na⟩) (s := hHeld) (r := ?_)
                  case y31na => intro w h; (try dsimp only at h); go_simp; (try with_reducible rfl)
                  try simp only [Act.put, List.setIfInBounds_toArray, List.set_cons_zero, List.set_cons_succ]
                  refine' tk (i := 32) (y := .inl ⟨by rfl, ?y32na⟩) (s := hHeld) (r := ?_)
                  case y32na => intro w h; (try dsimp only at h); go_simp; (try with_reducible rfl)
                  try simp only [Act.put, List.setIfInBounds_toArray, List.set_cons_zero, List.set_cons_succ]
                  refine' tk (i := 33) (y := .inl ⟨by rfl, ?y33na⟩) (s := hHeld) (r := ?_)
                  case y33na => intro w h; (try dsimp only at h); go_simp; (try with_reducible rfl)
                  try simp only [Act.put, List.setIfInBounds_toArray, List.set_cons_zero, List.set_cons_succ]
                  refine' tk (i := 34) (y := .inl ⟨by rfl, ?y34na⟩) (s := hHeld) (r := ?_)
                  case y34na => intro w h; (try dsimp only at h); go_simp; (try with_reducible rfl)
                  try simp only [Act.put, List.setIfInBounds_toArray, List.set_cons_zero, List.set_cons_succ]
                  refine' tk (i := 35) (y := .inl ⟨by rfl, ?y35na⟩) (s := hHeld) (r := ?_)
                  case y35na => intro w h; (try dsimp only at h); go_simp; (try with_reducible rfl)
                  try simp only [Act.put, List.setIfInBounds_toArray, List.set_cons_zero, List.set_cons_succ]
                  refine' tk (i := 37) (y := .inl ⟨by rfl, ?y37na⟩) (s := hHeld) (r := ?_)
                  case y37na => intro w h; (try dsimp only at h); go_simp; (try with_reducible rfl)
                  try simp only [Act.put, List.setIfInBounds_toArray, List.set_cons_zero, List.set_cons_succ]
                  refine' tk (i := 38) (y := .inl ⟨by rfl, ?y38na⟩) (s := hHeld) (r := ?_)
                  case y38na => intro w h; (try dsimp only at h); go_simp; (try with_reducible rfl)
                  try simp only [Act.put, List.setIfInBounds_toArray, List.set_cons_zero, List.set_cons_succ]
                  refine' tk (i := 39) (y := .inl ⟨by rfl, ?y39na⟩) (s := hHeld) (r := ?_)
                  case y39na => intro w h; (try dsimp only at h); go_simp; (try with_reducible rfl)
                  try simp only [Act.put, List.setIfInBounds_toArray, List.set_cons_zero, List.set_cons_succ]
                  refine wpAnyH_ready (rs := [36]) (by kernel_rfl) (by simp) ?_
                  refine AllReadyH.cons (List.getElem?_toArray.trans rfl) (fun K hK => ?_) AllReadyH.nil
                  go_simp
                  go_at_call 23
                  refine HQA.out.pods _ _ key xv (HBX.out.trans (z2.mono HBX.out.size)) ?_
                  intro s3 b3 ws3 w3 g3 _ _ hS3 hm3
                  have z3 : Below W.heap.size W w3 := z2.trans (g3.mono z2.size)
                  have HS3 := Lib.hid hS3
                  have HM3 := Lib.hid hm3
                  have G3 := Lib.hid g3
                  clear hS3 hm3 g3
                  go_wp2_with fail
                  refine hK.out _ _ (HKW.out _ z3) (fun hHeld => ?_)
                  clear hK K
                  try simp only [Act.put, List.setIfInBounds_toArray, List.set_cons_zero, List.set_cons_succ]
                  refine wpAnyH_ready (rs := [40]) (by kernel_rfl) (by simp) ?_
                  refine AllReadyH.cons (List.getElem?_toArray.trans rfl) (fun K hK => ?_) AllReadyH.nil
                  go_simp
                  go_at_call 23
                  refine HQB.out.pods _ _ key xv (HBX.out.trans (z3.mono HBX.out.size)) ?_
                  intro s4 b4 ws4 w4 g4 _ _ hS4 hm4
                  have z4 : Below W.heap.size W w4 := z3.trans (g4.mono z3.size)
                  have HS4 := Lib.hid hS4
                  have HM4 := Lib.hid hm4
                  have G4 := Lib.hid g4
                  clear hS4 hm4 g4
                  go_wp2_with fail
                  refine hK.out _ _ (HKW.out _ z4) (fun hHeld => ?_)
                  clear hK K
                  try simp only [Act.put, List.setIfInBounds_toArray, List.set_cons_zero, List.set_cons_succ]
                  refine wpAnyH_ready (rs := [41]) (by kernel_rfl) (by simp) ?_
                  refine AllReadyH.cons (List.getElem?_toArray.trans rfl) (fun K hK => ?_) AllReadyH.nil
                  go_simp
                  go_at_call 21
                  have hw3 := sets_same (m := 32) HS3.out HS4.out rfl (HM3.out.trans HM4.out.symm)
                  refine bequal_k _ _ s3 b3 s4 b4 2048 ws3 (HS3.out.move (G4.out.block _ HS3.out.lt.1) (G4.out.block _ HS3.out.lt.2)) (by rw [hw3]; exact HS4.out) ?_
                  clear hw3
                  go_wp2_with fail
                  refine hK.out _ _ (HKW.out _ z4) (fun hHeld => ?_)
                  clear hK K
                  try simp only [Act.put, List.setIfInBounds_toArray, List.set_cons_zero, List.set_cons_succ]
                  refine' tk (i := 42) (y := .inl ⟨by rfl, ?y42na⟩) (s := hHeld) (r := ?_)
                  case y42na => intro w h; (try dsimp only at h); go_simp; (try with_reducible rfl)
                  try simp only [Act.put, List.setIfInBounds_toArray, List.set_cons_zero, List.set_cons_succ]
                  refine' tk (i := 43) (y := .inl ⟨by rfl, ?y43na⟩) (s := hHeld) (r := ?_)
                  case y43na => intro w h; (try dsimp only at h); go_simp; (try with_reducible rfl)
                  try simp only [Act.put, List.setIfInBounds_toArray, List.set_cons_zero, List.set_cons_succ]
                  refine wpAnyH_done (by kernel_rfl) ?_ _
                  have y9' : w4.cell? ⟨B9, 0, none⟩ = some (.int .i64 (pre.length : Nat)) := cell_at (z4.keep_ HC.out) rfl
                  have f9' : w4.frozen? ⟨B9, 0, none⟩ = false := frozen_at (z4.keep_ HC.out)
                  have hM8 : Mod (fun j => j = B9) w4 (w4.setCell ⟨B9, 0, none⟩ (.int .i64 ((pre.length : Nat) + 1 : Int))) := Mod.setCell (S := fun j => j = B9) (p := ⟨B9, 0, none⟩) (Mod.refl _ w4) (fun _ => rfl) _
                  have HM8 := Lib.hid hM8
                  have Z4 := Lib.hid z4
                  have hwr : RowKit.wrap64 ((pre.length : Int) + 1) = (pre.length : Int) + 1 := by unfold RowKit.wrap64; omega
                  have HWR := Lib.hid hwr
                  clear hM8 hwr z1 z2 z3 z4
                  gi_wp2
                  try rw [HWR.out]
                  have hs4 := Z4.out.size
                  exact ⟨⟨by have := HM8.out.size; omega, fun j o hj hk0 _ => HM8.out.keep (Z4.out.keep_ hk0) (by omega)⟩, ⟨by have := HM8.out.size; omega, fun j h1 h2 h3 => (HM8.out.block j (by omega) (by omega)).trans (Z4.out.block j h3)⟩, HNEXT.out (by first | rfl | trivial), HM.out.seq ((Mod.of_below Z4.out).non_to.seq HM8.out), by
                    have := heap_setCell_at (i := 0) (v := .int .i64 ((pre.length : Nat) + 1 : Int)) (Z4.out.keep_ HC.out)
                    simpa using this⟩
                · have HNE := Lib.hid (show ¬ rn = xn from fun e => hx2 e.symm)
                  have HS := Lib.hid (HSTOP.out (fun e => hx2 (congrArg Prod.snd e)))
                  clear hx2
                  gi_wp2
                  have hgeq : decide ((zs.length : Int) ≤ (pre.length : Int)) = false := by simp; omega
                  have hgen : decide (zs.length ≤ pre.length) = false := by simp; omega
                  have hgei : ((zs.length : Int) ≤ (pre.length : Int)) = False := by simp; omega
                  have hgnn : (zs.length ≤ pre.length) = False := by simp; omega
                  have q1 : (rn == xn) = false := by simpa using HNE.out
                  have q2 : (rn != xn) = true := by simpa using HNE.out
                  have q3 : (rn = xn) = False := by simpa using HNE.out
                  refine region_round (S := fun W' => Below W.heap.size W W' ∧ W'.cell? ⟨B3, 0, none⟩ = some (.pointer (some ⟨ha.d, 0, none⟩)) ∧ W'.cell? ⟨B4, 0, none⟩ = some (.pointer (some ⟨hb.d, 0, none⟩)) ∧ W'.cell? ⟨B8, 0, none⟩ = some (.string key) ∧ W'.cell? ⟨B9, 0, none⟩ = some (.int .i64 (pre.length : Nat)) ∧ W'.cell? ⟨B10, 0, none⟩ = some (.slice (some ⟨bg, og, none⟩) zs.length cg) ∧ W'.cell? ⟨B11, 0, none⟩ = some (.slice (some ⟨bc, oc, none⟩) zs.length cc) ∧ W'.cell? ⟨bg, og + pre.length, none⟩ = some (.string xv) ∧ W'.cell? ⟨bc, oc + pre.length, none⟩ = some (.int .i64 rn)) (by kernel_rfl) (by kernel_rfl) (by rintro ⟨_, _, h⟩; exact h) (HKW.out _ YW.out) (fun hHeld => ?_)
                  refine' tk (i := 0) (y := .inl ⟨by rfl, ?y0nc⟩) (s := hHeld) (r := ?_)
                  case y0nc => intro w h; (try dsimp only at h); go_simp; (try with_reducible rfl)
                  try simp only [Act.put, List.setIfInBounds_toArray, List.set_cons_zero, List.set_cons_succ]
                  refine' tk (i := 1) (y := .inl ⟨by rfl, ?y1nc⟩) (s := hHeld) (r := ?_)
                  case y1nc => intro w h; (try dsimp only at h); go_simp; (try with_reducible rfl)
                  try simp only [Act.put, List.setIfInBounds_toArray, List.set_cons_zero, List.set_cons_succ]
                  refine' tk (i := 2) (y := .inl ⟨by rfl, ?y2nc⟩) (s := hHeld) (r := ?_)
                  case y2nc => intro w h; (try dsimp only at h); go_simp; (try with_reducible rfl)
                  try simp only [Act.put, List.setIfInBounds_toArray, List.set_cons_zero, List.set_cons_succ]
                  refine' tk (i := 3) (y := .inl ⟨by rfl, ?y3nc⟩) (s := hHeld) (r := ?_)
                  case y3nc => intro w h; (try dsimp only at h); go_simp; (try with_reducible rfl)
                  try simp only [Act.put, List.setIfInBounds_toArray, List.set_cons_zero, List.set_cons_succ]
                  refine' tk (i := 4) (y := .inl ⟨by rfl, ?y4nc⟩) (s := hHeld) (r := ?_)
                  case y4nc => intro w h; (try dsimp only at h); go_simp; (try with_reducible rfl)
                  try simp only [Act.put, List.setIfInBounds_toArray, List.set_cons_zero, List.set_cons_succ]
                  refine' tk (i := 5) (y := .inl ⟨by rfl, ?y5nc⟩) (s := hHeld) (r := ?_)
                  case y5nc => intro w h; (try dsimp only at h); go_simp; (try with_reducible rfl)
                  try simp only [Act.put, List.setIfInBounds_toArray, List.set_cons_zero, List.set_cons_succ]
                  refine' tk (i := 6) (y := .inl ⟨by rfl, ?y6nc⟩) (s := hHeld) (r := ?_)
                  case y6nc => intro w h; (try dsimp only at h); go_simp; (try with_reducible rfl)
                  try simp only [Act.put, List.setIfInBounds_toArray, List.set_cons_zero, List.set_cons_succ]
                  refine' tk (i := 7) (y := .inl ⟨by rfl, ?y7nc⟩) (s := hHeld) (r := ?_)
                  case y7nc => intro w h; (try dsimp only at h); go_simp; (try with_reducible rfl)
                  try simp only [Act.put, List.setIfInBounds_toArray, List.set_cons_zero, List.set_cons_succ]
                  refine' tk (i := 8) (y := .inl ⟨by rfl, ?y8nc⟩) (s := hHeld) (r := ?_)
                  case y8nc => intro w h; (try dsimp only at h); go_simp; (try with_reducible rfl)
                  try simp only [Act.put, List.setIfInBounds_toArray, List.set_cons_zero, List.set_cons_succ]
                  refine' tk (i := 9) (y := .inl ⟨by rfl, ?y9nc⟩) (s := hHeld) (r := ?_)
                  case y9nc => intro w h; (try dsimp only at h); go_simp; (try with_reducible rfl)
                  try simp only [Act.put, List.setIfInBounds_toArray, List.set_cons_zero, List.set_cons_succ]
                  refine' tk (i := 10) (y := .inl ⟨by rfl, ?y10nc⟩) (s := hHeld) (r := ?_)
                  case y10nc => intro w h; (try dsimp only at h); go_simp; (try with_reducible rfl)
                  try simp only [Act.put, List.setIfInBounds_toArray, List.set_cons_zero, List.set_cons_succ]
                  refine' tk (i := 11) (y := .inl ⟨by rfl, ?y11nc⟩) (s := hHeld) (r := ?_)
                  case y11nc => intro w h; (try dsimp only at h); go_simp; (try with_reducible rfl)
                  try simp only [Act.put, List.setIfInBounds_toArray, List.set_cons_zero, List.set_cons_succ]
                  refine' tk (i := 12) (y := .inl ⟨by rfl, ?y12nc⟩) (s := hHeld) (r := ?_)
                  case y12nc => intro w h; (try dsimp only at h); go_simp; (try with_reducible rfl)
                  try simp only [Act.put, List.setIfInBounds_toArray, List.set_cons_zero, List.set_cons_succ]
                  refine' tk (i := 13) (y := .inl ⟨by rfl, ?y13nc⟩) (s := hHeld) (r := ?_)
                  case y13nc => intro w h; (try dsimp only at h); go_simp; (try with_reducible rfl)
                  try simp only [Act.put, List.setIfInBounds_toArray, List.set_cons_zero, List.set_cons_succ]
                  refine' tk (i := 14) (y := .inl ⟨by rfl, ?y14nc⟩) (s := hHeld) (r := ?_)
                  case y14nc => intro w h; (try dsimp only at h); go_simp; (try with_reducible rfl)
                  try simp only [Act.put, List.setIfInBounds_toArray, List.set_cons_zero, List.set_cons_succ]
                  refine' tk (i := 15) (y := .inl ⟨by rfl, ?y15nc⟩) (s := hHeld) (r := ?_)
                  case y15nc => intro w h; (try dsimp only at h); go_simp; (try with_reducible rfl)
                  try simp only [Act.put, List.setIfInBounds_toArray, List.set_cons_zero, List.set_cons_succ]
                  refine' tk (i := 16) (y := .inl ⟨by rfl, ?y16nc⟩) (s := hHeld) (r := ?_)
                  case y16nc => intro w h; (try dsimp only at h); go_simp; (try with_reducible rfl)
                  try simp only [Act.put, List.setIfInBounds_toArray, List.set_cons_zero, List.set_cons_succ]
                  refine' tk (i := 17) (y := .inl ⟨by rfl, ?y17nc⟩) (s := hHeld) (r := ?_)
                  case y17nc => intro w h; (try dsimp only at h); go_simp; (try with_reducible rfl)
                  try simp only [Act.put, List.setIfInBounds_toArray, List.set_cons_zero, List.set_cons_succ]
                  refine' tk (i := 18) (y := .inl ⟨by rfl, ?y18nc⟩) (s := hHeld) (r := ?_)
                  case y18nc => intro w h; (try dsimp only at h); go_simp; (try with_reducible rfl)
                  try simp only [Act.put, List.setIfInBounds_toArray, List.set_cons_zero, List.set_cons_succ]
                  refine' tk (i := 19) (y := .inl ⟨by rfl, ?y19nc⟩) (s := hHeld) (r := ?_)
                  case y19nc => intro w h; (try dsimp only at h); go_simp; (try with_reducible rfl)
                  try simp only [Act.put, List.setIfInBounds_toArray, List.set_cons_zero, List.set_cons_succ]
                  refine' tk (i := 20) (y := .inl ⟨by rfl, ?y20nc⟩) (s := hHeld) (r := ?_)
                  case y20nc => intro w h; (try dsimp only at h); go_simp; (try with_reducible rfl)
                  try simp only [Act.put, List.setIfInBounds_toArray, List.set_cons_zero, List.set_cons_succ]
                  refine' tk (i := 21) (v := undef) (y := .inr ⟨by rfl, rfl⟩) (s := hHeld) (r := ?_)
                  try simp only [Act.put, List.setIfInBounds_toArray, List.set_cons_zero, List.set_cons_succ]
                  refine' tk (i := 22) (v := undef) (y := .inr ⟨by rfl, rfl⟩) (s := hHeld) (r := ?_)
                  try simp only [Act.put, List.setIfInBounds_toArray, List.set_cons_zero, List.set_cons_succ]
                  refine' tk (i := 23) (v := undef) (y := .inr ⟨by rfl, rfl⟩) (s := hHeld) (r := ?_)
                  try simp only [Act.put, List.setIfInBounds_toArray, List.set_cons_zero, List.set_cons_succ]
                  refine' tk (i := 24) (v := undef) (y := .inr ⟨by rfl, rfl⟩) (s := hHeld) (r := ?_)
                  try simp only [Act.put, List.setIfInBounds_toArray, List.set_cons_zero, List.set_cons_succ]
                  refine' tk (i := 25) (v := undef) (y := .inr ⟨by rfl, rfl⟩) (s := hHeld) (r := ?_)
                  try simp only [Act.put, List.setIfInBounds_toArray, List.set_cons_zero, List.set_cons_succ]
                  refine' tk (i := 26) (v := undef) (y := .inr ⟨by rfl, rfl⟩) (s := hHeld) (r := ?_)
                  try simp only [Act.put, List.setIfInBounds_toArray, List.set_cons_zero, List.set_cons_succ]
                  refine' tk (i := 27) (v := undef) (y := .inr ⟨by rfl, rfl⟩) (s := hHeld) (r := ?_)
                  try simp only [Act.put, List.setIfInBounds_toArray, List.set_cons_zero, List.set_cons_succ]
                  refine' tk (i := 28) (v := undef) (y := .inr ⟨by rfl, rfl⟩) (s := hHeld) (r := ?_)
                  try simp only [Act.put, List.setIfInBounds_toArray, List.set_cons_zero, List.set_cons_succ]
                  refine' tk (i := 29) (v := undef) (y := .inr ⟨by rfl, rfl⟩) (s := hHeld) (r := ?_)
                  try simp only [Act.put, List.setIfInBounds_toArray, List.set_cons_zero, List.set_cons_succ]
                  refine' tk (i := 30) (v := undef) (y := .inr ⟨by rfl, rfl⟩) (s := hHeld) (r := ?_)
                  try simp only [Act.put, List.setIfInBounds_toArray, List.set_cons_zero, List.set_cons_succ]
                  refine' tk (i := 31) (y := .inl ⟨by rfl, ?y31nc⟩) (s := hHeld) (r := ?_)
                  case y31nc => intro w h; (try dsimp only at h); go_simp; (try with_reducible rfl)
                  try simp only [Act.put, List.setIfInBounds_toArray, List.set_cons_zero, List.set_cons_succ]
                  refine' tk (i := 32) (y := .inl ⟨by rfl, ?y32nc⟩) (s := hHeld) (r := ?_)
                  case y32nc => intro w h; (try dsimp only at h); go_simp; (try with_reducible rfl)
                  try simp only [Act.put, List.setIfInBounds_toArray, List.set_cons_zero, List.set_cons_succ]
                  refine' tk (i := 33) (v := undef) (y := .inr ⟨by rfl, rfl⟩) (s := hHeld) (r := ?_)
                  try simp only [Act.put, List.setIfInBounds_toArray, List.set_cons_zero, List.set_cons_succ]
                  refine' tk (i := 34) (v := undef) (y := .inr ⟨by rfl, rfl⟩) (s := hHeld) (r := ?_)
                  try simp only [Act.put, List.setIfInBounds_toArray, List.set_cons_zero, List.set_cons_succ]
                  refine' tk (i := 35) (v := undef) (y := .inr ⟨by rfl, rfl⟩) (s := hHeld) (r := ?_)
                  try simp only [Act.put, List.setIfInBounds_toArray, List.set_cons_zero, List.set_cons_succ]
                  refine' tk (i := 36) (v := undef) (y := .inr ⟨by rfl, rfl⟩) (s := hHeld) (r := ?_)
                  try simp only [Act.put, List.setIfInBounds_toArray, List.set_cons_zero, List.set_cons_succ]
                  refine' tk (i := 37) (v := undef) (y := .inr ⟨by rfl, rfl⟩) (s := hHeld) (r := ?_)
                  try simp only [Act.put, List.setIfInBounds_toArray, List.set_cons_zero, List.set_cons_succ]
                  refine' tk (i := 38) (v := undef) (y := .inr ⟨by rfl, rfl⟩) (s := hHeld) (r := ?_)
                  try simp only [Act.put, List.setIfInBounds_toArray, List.set_cons_zero, List.set_cons_succ]
                  refine' tk (i := 39) (v := undef) (y := .inr ⟨by rfl, rfl⟩) (s := hHeld) (r := ?_)
                  try simp only [Act.put, List.setIfInBounds_toArray, List.set_cons_zero, List.set_cons_succ]
                  refine' tk (i := 40) (v := undef) (y := .inr ⟨by rfl, rfl⟩) (s := hHeld) (r := ?_)
                  try simp only [Act.put, List.setIfInBounds_toArray, List.set_cons_zero, List.set_cons_succ]
                  refine' tk (i := 41) (v := undef) (y := .inr ⟨by rfl, rfl⟩) (s := hHeld) (r := ?_)
                  try simp only [Act.put, List.setIfInBounds_toArray, List.set_cons_zero, List.set_cons_succ]
                  refine' tk (i := 42) (v := undef) (y := .inr ⟨by rfl, rfl⟩) (s := hHeld) (r := ?_)
                  try simp only [Act.put, List.setIfInBounds_toArray, List.set_cons_zero, List.set_cons_succ]
                  refine' tk (i := 43) (y := .inl ⟨by rfl, ?y43nc⟩) (s := hHeld) (r := ?_)
                  case y43nc => intro w h; (try dsimp only at h); go_simp; (try with_reducible rfl)
                  try simp only [Act.put, List.setIfInBounds_toArray, List.set_cons_zero, List.set_cons_succ]
                  refine wpAnyH_done (by kernel_rfl) ?_ _
                  have HM6 := Lib.hid (Mod.setCell (S := fun j => j = B2) (p := ⟨B2, 0, none⟩) (Mod.refl (fun j => j = B2) W).drew (fun _ => rfl) (.bool false))
                  gi_wp2
                  exact ⟨⟨HM6.out.size, fun j o hj hk0 _ => HM6.out.keep hk0 (by omega)⟩, HS.out⟩
              · have HNE := Lib.hid (show ¬ rv = xv from fun e => hx1 e.symm)
                have HS := Lib.hid (HSTOP.out (fun e => hx1 (congrArg Prod.fst e)))
                clear hx1
                gi_wp2
                have hgeq : decide ((zs.length : Int) ≤ (pre.length : Int)) = false := by simp; omega
                have hgen : decide (zs.length ≤ pre.length) = false := by simp; omega
                have hgei : ((zs.length : Int) ≤ (pre.length : Int)) = False := by simp; omega
                have hgnn : (zs.length ≤ pre.length) = False := by simp; omega
                have q1 : (rv.toList == xv.toList) = false := by
                  rw [ba_toList_beq]
                  simpa using HNE.out
                have q2 : (rv.toList != xv.toList) = true := by simp [bne, q1]
                refine region_round (S := fun W' => Below W.heap.size W W' ∧ W'.cell? ⟨B3, 0, none⟩ = some (.pointer (some ⟨ha.d, 0, none⟩)) ∧ W'.cell? ⟨B4, 0, none⟩ = some (.pointer (some ⟨hb.d, 0, none⟩)) ∧ W'.cell? ⟨B8, 0, none⟩ = some (.string key) ∧ W'.cell? ⟨B9, 0, none⟩ = some (.int .i64 (pre.length : Nat)) ∧ W'.cell? ⟨B10, 0, none⟩ = some (.slice (some ⟨bg, og, none⟩) zs.length cg) ∧ W'.cell? ⟨B11, 0, none⟩ = some (.slice (some ⟨bc, oc, none⟩) zs.length cc) ∧ W'.cell? ⟨bg, og + pre.length, none⟩ = some (.string rv) ∧ W'.cell? ⟨bc, oc + pre.length, none⟩ = some (.int .i64 rn)) (by kernel_rfl) (by kernel_rfl) (by rintro ⟨_, _, h⟩; exact h) (HKW.out _ YW.out) (fun hHeld => ?_)
                refine' tk (i := 0) (y := .inl ⟨by rfl, ?y0nb⟩) (s := hHeld) (r := ?_)
                case y0nb => intro w h; (try dsimp only at h); go_simp; (try with_reducible rfl)
                try simp only [Act.put, List.setIfInBounds_toArray, List.set_cons_zero, List.set_cons_succ]
                refine' tk (i := 1) (y := .inl ⟨by rfl, ?y1nb⟩) (s := hHeld) (r := ?_)
                case y1nb => intro w h; (try dsimp only at h); go_simp; (try with_reducible rfl)
                try simp only [Act.put, List.setIfInBounds_toArray, List.set_cons_zero, List.set_cons_succ]
                refine' tk (i := 2) (y := .inl ⟨by rfl, ?y2nb⟩) (s := hHeld) (r := ?_)
                case y2nb => intro w h; (try dsimp only at h); go_simp; (try with_reducible rfl)
                try simp only [Act.put, List.setIfInBounds_toArray, List.set_cons_zero, List.set_cons_succ]
                refine' tk (i := 3) (y := .inl ⟨by rfl, ?y3nb⟩) (s := hHeld) (r := ?_)
                case y3nb => intro w h; (try dsimp only at h); go_simp; (try with_reducible rfl)
                try simp only [Act.put, List.setIfInBounds_toArray, List.set_cons_zero, List.set_cons_succ]
                refine' tk (i := 4) (y := .inl ⟨by rfl, ?y4nb⟩) (s := hHeld) (r := ?_)
                case y4nb => intro w h; (try dsimp only at h); go_simp; (try with_reducible rfl)
                try simp only [Act.put, List.setIfInBounds_toArray, List.set_cons_zero, List.set_cons_succ]
                refine' tk (i := 5) (y := .inl ⟨by rfl, ?y5nb⟩) (s := hHeld) (r := ?_)
                case y5nb => intro w h; (try dsimp only at h); go_simp; (try with_reducible rfl)
                try simp only [Act.put, List.setIfInBounds_toArray, List.set_cons_zero, List.set_cons_succ]
                refine' tk (i := 6) (y := .inl ⟨by rfl, ?y6nb⟩) (s := hHeld) (r := ?_)
                case y6nb => intro w h; (try dsimp only at h); go_simp; (try with_reducible rfl)
                try simp only [Act.put, List.setIfInBounds_toArray, List.set_cons_zero, List.set_cons_succ]
                refine' tk (i := 7) (y := .inl ⟨by rfl, ?y7nb⟩) (s := hHeld) (r := ?_)
                case y7nb => intro w h; (try dsimp only at h); go_simp; (try with_reducible rfl)
                try simp only [Act.put, List.setIfInBounds_toArray, List.set_cons_zero, List.set_cons_succ]
                refine' tk (i := 8) (y := .inl ⟨by rfl, ?y8nb⟩) (s := hHeld) (r := ?_)
                case y8nb => intro w h; (try dsimp only at h); go_simp; (try with_reducible rfl)
                try simp only [Act.put, List.setIfInBounds_toArray, List.set_cons_zero, List.set_cons_succ]
                refine' tk (i := 9) (y := .inl ⟨by rfl, ?y9nb⟩) (s := hHeld) (r := ?_)
                case y9nb => intro w h; (try dsimp only at h); go_simp; (try with_reducible rfl)
                try simp only [Act.put, List.setIfInBounds_toArray, List.set_cons_zero, List.set_cons_succ]
                refine' tk (i := 10) (y := .inl ⟨by rfl, ?y10nb⟩) (s := hHeld) (r := ?_)
                case y10nb => intro w h; (try dsimp only at h); go_simp; (try with_reducible rfl)
                try simp only [Act.put, List.setIfInBounds_toArray, List.set_cons_zero, List.set_cons_succ]
                refine' tk (i := 11) (y := .inl ⟨by rfl, ?y11nb⟩) (s := hHeld) (r := ?_)
                case y11nb => intro w h; (try dsimp only at h); go_simp; (try with_reducible rfl)
                try simp only [Act.put, List.setIfInBounds_toArray, List.set_cons_zero, List.set_cons_succ]
                refine' tk (i := 12) (y := .inl ⟨by rfl, ?y12nb⟩) (s := hHeld) (r := ?_)
                case y12nb => intro w h; (try dsimp only at h); go_simp; (try with_reducible rfl)
                try simp only [Act.put, List.setIfInBounds_toArray, List.set_cons_zero, List.set_cons_succ]
                refine' tk (i := 13) (v := undef) (y := .inr ⟨by rfl, rfl⟩) (s := hHeld) (r := ?_)
                try simp only [Act.put, List.setIfInBounds_toArray, List.set_cons_zero, List.set_cons_succ]
                refine' tk (i := 14) (v := undef) (y := .inr ⟨by rfl, rfl⟩) (s := hHeld) (r := ?_)
                try simp only [Act.put, List.setIfInBounds_toArray, List.set_cons_zero, List.set_cons_succ]
                refine' tk (i := 15) (v := undef) (y := .inr ⟨by rfl, rfl⟩) (s := hHeld) (r := ?_)
                try simp only [Act.put, List.setIfInBounds_toArray, List.set_cons_zero, List.set_cons_succ]
                refine' tk (i := 16) (v := undef) (y := .inr ⟨by rfl, rfl⟩) (s := hHeld) (r := ?_)
                try simp only [Act.put, List.setIfInBounds_toArray, List.set_cons_zero, List.set_cons_succ]
                refine' tk (i := 17) (v := undef) (y := .inr ⟨by rfl, rfl⟩) (s := hHeld) (r := ?_)
                try simp only [Act.put, List.setIfInBounds_toArray, List.set_cons_zero, List.set_cons_succ]
                refine' tk (i := 18) (v := undef) (y := .inr ⟨by rfl, rfl⟩) (s := hHeld) (r := ?_)
                try simp only [Act.put, List.setIfInBounds_toArray, List.set_cons_zero, List.set_cons_succ]
                refine' tk (i := 19) (y := .inl ⟨by rfl, ?y19nb⟩) (s := hHeld) (r := ?_)
                case y19nb => intro w h; (try dsimp only at h); go_simp; (try with_reducible rfl)
                try simp only [Act.put, List.setIfInBounds_toArray, List.set_cons_zero, List.set_cons_succ]
                refine' tk (i := 20) (y := .inl ⟨by rfl, ?y20nb⟩) (s := hHeld) (r := ?_)
                case y20nb => intro w h; (try dsimp only at h); go_simp; (try with_reducible rfl)
                try simp only [Act.put, List.setIfInBounds_toArray, List.set_cons_zero, List.set_cons_succ]
                refine' tk (i := 21) (v := undef) (y := .inr ⟨by rfl, rfl⟩) (s := hHeld) (r := ?_)
                try simp only [Act.put, List.setIfInBounds_toArray, List.set_cons_zero, List.set_cons_succ]
                refine' tk (i := 22) (v := undef) (y := .inr ⟨by rfl, rfl⟩) (s := hHeld) (r := ?_)
                try simp only [Act.put, List.setIfInBounds_toArray, List.set_cons_zero, List.set_cons_succ]
                refine' tk (i := 23) (v := undef) (y := .inr ⟨by rfl, rfl⟩) (s := hHeld) (r := ?_)
                try simp only [Act.put, List.setIfInBounds_toArray, List.set_cons_zero, List.set_cons_succ]
                refine' tk (i := 24) (v := undef) (y := .inr ⟨by rfl, rfl⟩) (s := hHeld) (r := ?_)
                try simp only [Act.put, List.setIfInBounds_toArray, List.set_cons_zero, List.set_cons_succ]
                refine' tk (i := 25) (v := undef) (y := .inr ⟨by rfl, rfl⟩) (s := hHeld) (r := ?_)
                try simp only [Act.put, List.setIfInBounds_toArray, List.set_cons_zero, List.set_cons_succ]
                refine' tk (i := 26) (v := undef) (y := .inr ⟨by rfl, rfl⟩) (s := hHeld) (r := ?_)
                try simp only [Act.put, List.setIfInBounds_toArray, List.set_cons_zero, List.set_cons_succ]
                refine' tk (i := 27) (v := undef) (y := .inr ⟨by rfl, rfl⟩) (s := hHeld) (r := ?_)
                try simp only [Act.put, List.setIfInBounds_toArray, List.set_cons_zero, List.set_cons_succ]
                refine' tk (i := 28) (v := undef) (y := .inr ⟨by rfl, rfl⟩) (s := hHeld) (r := ?_)
                try simp only [Act.put, List.setIfInBounds_toArray, List.set_cons_zero, List.set_cons_succ]
                refine' tk (i := 29) (v := undef) (y := .inr ⟨by rfl, rfl⟩) (s := hHeld) (r := ?_)
                try simp only [Act.put, List.setIfInBounds_toArray, List.set_cons_zero, List.set_cons_succ]
                refine' tk (i := 30) (v := undef) (y := .inr ⟨by rfl, rfl⟩) (s := hHeld) (r := ?_)
                try simp only [Act.put, List.setIfInBounds_toArray, List.set_cons_zero, List.set_cons_succ]
                refine' tk (i := 31) (y := .inl ⟨by rfl, ?y31nb⟩) (s := hHeld) (r := ?_)
                case y31nb => intro w h; (try dsimp only at h); go_simp; (try with_reducible rfl)
                try simp only [Act.put, List.setIfInBounds_toArray, List.set_cons_zero, List.set_cons_succ]
                refine' tk (i := 32) (y := .inl ⟨by rfl, ?y32nb⟩) (s := hHeld) (r := ?_)
                case y32nb => intro w h; (try dsimp only at h); go_simp; (try with_reducible rfl)
                try simp only [Act.put, List.setIfInBounds_toArray, List.set_cons_zero, List.set_cons_succ]
                refine' tk (i := 33) (v := undef) (y := .inr ⟨by rfl, rfl⟩) (s := hHeld) (r := ?_)
                try simp only [Act.put, List.setIfInBounds_toArray, List.set_cons_zero, List.set_cons_succ]
                refine' tk (i := 34) (v := undef) (y := .inr ⟨by rfl, rfl⟩) (s := hHeld) (r := ?_)
                try simp only [Act.put, List.setIfInBounds_toArray, List.set_cons_zero, List.set_cons_succ]
                refine' tk (i := 35) (v := undef) (y := .inr ⟨by rfl, rfl⟩) (s := hHeld) (r := ?_)
                try simp only [Act.put, List.setIfInBounds_toArray, List.set_cons_zero, List.set_cons_succ]
                refine' tk (i := 36) (v := undef) (y := .inr ⟨by rfl, rfl⟩) (s := hHeld) (r := ?_)
                try simp only [Act.put, List.setIfInBounds_toArray, List.set_cons_zero, List.set_cons_succ]
                refine' tk (i := 37) (v := undef) (y := .inr ⟨by rfl, rfl⟩) (s := hHeld) (r := ?_)
                try simp only [Act.put, List.setIfInBounds_toArray, List.set_cons_zero, List.set_cons_succ]
                refine' tk (i := 38) (v := undef) (y := .inr ⟨by rfl, rfl⟩) (s := hHeld) (r := ?_)
                try simp only [Act.put, List.setIfInBounds_toArray, List.set_cons_zero, List.set_cons_succ]
                refine' tk (i := 39) (v := undef) (y := .inr ⟨by rfl, rfl⟩) (s := hHeld) (r := ?_)
                try simp only [Act.put, List.setIfInBounds_toArray, List.set_cons_zero, List.set_cons_succ]
                refine' tk (i := 40) (v := undef) (y := .inr ⟨by rfl, rfl⟩) (s := hHeld) (r := ?_)
                try simp only [Act.put, List.setIfInBounds_toArray, List.set_cons_zero, List.set_cons_succ]
                refine' tk (i := 41) (v := undef) (y := .inr ⟨by rfl, rfl⟩) (s := hHeld) (r := ?_)
                try simp only [Act.put, List.setIfInBounds_toArray, List.set_cons_zero, List.set_cons_succ]
                refine' tk (i := 42) (v := undef) (y := .inr ⟨by rfl, rfl⟩) (s := hHeld) (r := ?_)
                try simp only [Act.put, List.setIfInBounds_toArray, List.set_cons_zero, List.set_cons_succ]
                refine' tk (i := 43) (y := .inl ⟨by rfl, ?y43nb⟩) (s := hHeld) (r := ?_)
                case y43nb => intro w h; (try dsimp only at h); go_simp; (try with_reducible rfl)
                try simp only [Act.put, List.setIfInBounds_toArray, List.set_cons_zero, List.set_cons_succ]
                refine wpAnyH_done (by kernel_rfl) ?_ _
                have HM6 := Lib.hid (Mod.setCell (S := fun j => j = B2) (p := ⟨B2, 0, none⟩) (Mod.refl (fun j => j = B2) W).drew (fun _ => rfl) (.bool false))
                gi_wp2
                exact ⟨⟨HM6.out.size, fun j o hj hk0 _ => HM6.out.keep hk0 (by omega)⟩, HS.out⟩
            case ndone =>
              rintro D2 zs2 wi hD2 rfl ⟨-, hMi, hci⟩ hK2
              rw [hzl2] at hci
              obtain ⟨Ag, cg, hgs, _⟩ := HGK.out.slice
              rw [List.length_map] at hgs
              have hsi := hMi.size
              have y9 : wi.cell? ⟨B9, 0, none⟩ = some (.int .i64 (zs.length : Nat)) := cell_at hci rfl
              have y10 : wi.cell? ⟨B10, 0, none⟩ = some (.slice Ag zs.length cg) := by
                rw [← hgs]
                exact cell_at (hMi.keep (HGH.out.keep_ H10.out) (by omega)) rfl
              have HMI := Lib.hid hMi
              have HK2' := Lib.hid hK2
              clear hMi hci hK2 hgs
              go_wp2_with fail
              have hwe := HWE.out
              have lD1 := (Array.getElem?_eq_some_iff.1 HK1.out).1
              have lD2 := (Array.getElem?_eq_some_iff.1 HK2'.out).1
              have gE : Below we.heap.size we wi := ((((HWD.out.trans (HGF.out.mono hsd)).trans (HMG.out.below (by omega) (fun k e => by omega))).trans (HGH.out.mono (by omega))).trans (HMI.out.below (by omega) (fun k e => by omega)))
              have hlim : ∀ D, we.heap.size ≤ D → oa D = none ∧ ob D = none ∧ w.heap.size ≤ D := fun D hD => ⟨MW.out.DA.lim D hD, MW.out.DB.lim D hD, Nat.le_trans MW.out.below.size hD⟩
              refine HJ2.out _ _ ⟨i + 1, D2 :: D1 :: Es, ?_⟩ ?_
              · repeat apply Exists.intro
                refine ⟨by go_num, by omega, HBE.out.trans (gE.mono hse), List.nodup_cons.2 ⟨fun hm => ?_, List.nodup_cons.2 ⟨fun hm => ?_, HNE.out⟩⟩, fun D hD => ?_⟩
                · rcases List.mem_cons.1 hm with h | h
                  · omega
                  · have := (HEE.out D2 h).1; omega
                · have := (HEE.out D1 hm).1; omega
                · rcases List.mem_cons.1 hD with h | h
                  · rw [h]; exact ⟨lD2, HK2'.out, hlim D2 (by omega)⟩
                  · rcases List.mem_cons.1 h with h | h
                    · rw [h]
                      exact ⟨by omega, HMI.out.keep (HGH.out.keep_ HK1.out) (by omega), hlim D1 (by omega)⟩
                    · have h5 := HEE.out D h
                      exact ⟨by omega, gE.keep_ h5.2.1, h5.2.2⟩
              · simp [intOf]; omega
        · obtain rfl : i = keys.length := by omega
          have MZ := Lib.hid (HM8.out.mono HBE.out)
          have HRL := Lib.hid (show RefM w ha hb S2 S2 oa ob ([(B2, .cells #[.bool false] 4), (B3, .cells #[.pointer (some ⟨ha.d, 0, none⟩)] 24), (B4, .cells #[.pointer (some ⟨hb.d, 0, none⟩)] 24)] ++ Es.map fun D => (D, .deferred (some []))) we from by
            have h0 := MZ.out
            rw [HL.out] at h0
            exact (h0.unmark).1.marks (fun D hD => (HEE.out D hD).2))
          clear MZ
          go_wp2_with fail
          refine HJJ.out _ _ ⟨k + 1, S2, d2, oa, ob, Es, ?_⟩ ?_
          · repeat apply Exists.intro
            exact ⟨by go_num, by omega, HRL.out, T2.out, F2.out, HNE.out⟩
          · simp [intOf]; omega
    · have M1 := Lib.hid M0
      have T1 := Lib.hid T0
      have F1 := Lib.hid F0
      have HN := Lib.hid N0
      clear M0 T0 F0 N0
      obtain rfl : k = xs.length := by omega
      have hk2 := M1.out.keep (B2, .cells #[.bool false] 4) (by simp)
      have y2 : wr.cell? ⟨B2, 0, none⟩ = some (.bool false) := cell_at hk2.1 rfl
      have f2 : wr.frozen? ⟨B2, 0, none⟩ = false := frozen_at hk2.1
      have K2 := Lib.hid hk2
      clear hk2
      go_wp2_with fail
      show LeavesInM _ _ _ _ _ _ _ _ _
      have hM1 : Mod (fun j => j = B2) wr (wr.setCell ⟨B2, 0, none⟩ (.bool true)) := Mod.setCell (S := fun j => j = B2) (p := ⟨B2, 0, none⟩) (Mod.refl _ wr) (fun _ => rfl) _
      have oE : (wr.setCell ⟨B2, 0, none⟩ (.bool true)).heap[B2]? = some (.cells #[.bool true] 4) := by
        have := heap_setCell_at (i := 0) (v := .bool true) K2.out.1
        simpa using this
      have hDm := (M1.out.unmark).2
      have hne : ∀ D ∈ Ds, ¬ D = B2 := fun D hD e => by
        have h1 := (hDm D hD).1
        rw [e, K2.out.1] at h1
        cases h1
      refine leaves_marks Ds _ HN.out (fun D hD => hM1.keep (hDm D hD).1 (hne D hD)) (fun w' hw' => ?_)
      have oF := hw'.keep oE (fun h => hne B2 h rfl)
      have x_0 : w'.cell? ⟨B2, 0, none⟩ = some (.bool true) := cell_at oF rfl
      have hb1 : Below w.heap.size wr (wr.setCell ⟨B2, 0, none⟩ (.bool true)) := hM1.below M1.out.below.size (fun j e => by rw [e]; exact K2.out.2.2.2)
      have hb2 : Below w.heap.size (wr.setCell ⟨B2, 0, none⟩ (.bool true)) w' := hw'.below (by have := M1.out.below.size; have := hM1.size; omega) (fun j e => (hDm j e).2.2.2)
      have hqv := HR.out w' (M1.out.below.trans (hb1.trans hb2))
      refine ⟨_, ?_, hqv⟩
      simp [results, Tryz.results5, go_sem, x_0]
end Go.Proofs.YtmenipaibjifiaaGreatDoor
