/-
domain: join.
domain.Build of a nil cluster: an empty Domains.
-/
import Derived.Test.YtmenipaibjifiaaGreatDoorR26
import Derived.Test.YtmenipaibjifiaaGreatDoorR15
import Derived.Test.YtmenipaibjifiaaGreatDoorR21
import Derived.Test.YtmenipaibjifiaaGreatDoorR25
import Derived.BigQuiet
import Derived.Deep.RegionWith
import Derived.BigRegion
import Derived.WalkSpells
import Derived.Deep.RegionHeld3
import Derived.Test.YtmenipaibjifiaaGreatDoorR29
set_option linter.unusedVariables false
set_option linter.unusedSimpArgs false
namespace Go.Proofs.YtmenipaibjifiaaGreatDoor
open Go.RowKit Go.BigFrame Go.Shelf
attribute [local go_sem] Oper.semAt_some

theorem Below.of_drew {w w' : World} (h : Below w.drew.heap.size w.drew w') : Below w.heap.size w w' := ⟨h.os, h.tape, h.output, h.size, h.block⟩
/-- Where join stands with a label: the state T; its own boxes. -/
def JS (w : World) (own : Own') (h : Hdr) (l : Lab) (Ds : List Nat) (B0 B7 B8 : Nat) (T : St) (wr : World) : Prop :=
  ∃ own', DomAt wr h own' T ∧ Ext w own own' ∧ Mod (Mut own) w wr ∧ wr.heap[B0]? = some (.cells #[.pointer (some ⟨h.d, 0, none⟩)] 24) ∧ own' B0 = none ∧
    wr.heap[B7]? = some (.cells #[.string l.key, .string l.val] 108) ∧ own' B7 = none ∧ wr.heap[B8]? = some (.cells #[.string l.key, .string l.val] 143) ∧ own' B8 = none ∧ ∀ D ∈ Ds, wr.heap[D]? = some (.deferred (some [])) ∧ own' D = none
theorem JS.below {w : World} {own : Own'} {h : Hdr} {l : Lab} {Ds : List Nat} {B0 B7 B8 : Nat} {T : St} {wr wr' : World} (J : JS w own h l Ds B0 B7 B8 T wr) (hb : Below wr.heap.size wr wr') : JS w own h l Ds B0 B7 B8 T wr' := by
  obtain ⟨own', D, hE, hM, h0, o0, h7, o7, h8, o8, hm⟩ := J
  have hk : ∀ {b : Nat} {o : Obj}, wr.heap[b]? = some o → wr'.heap[b]? = some o := fun {b o} h => (hb.block b (Array.getElem?_eq_some_iff.1 h).1).trans h
  exact ⟨own', D.below hb, hE, hM.seq (Mod.of_below hb).non_to, hk h0, o0, hk h7, o7, hk h8, o8, fun D hD => ⟨hk (hm D hD).1, (hm D hD).2⟩⟩
/-- The mark of a loop over an iterator. -/
def mkD (D : Nat) : Deferred := { target := .collected D, args := #[] }
theorem leaves_marks {F : Fence} {n : Nat} {P : Program} {fn : Func} {tmps : Array Value} {R : Ending → World → Prop} : ∀ (Ds : List Nat) (w : World), Ds.Nodup → (∀ D ∈ Ds, w.heap[D]? = some (.deferred (some []))) →
    (∀ w', Mod (fun k => k ∈ Ds) w w' → LeavesIn F n P fn tmps R [] .returning w') → LeavesInM F n P fn tmps R (Ds.map mkD) .returning w
  | [], w, _, _, h => h w (Mod.refl _ _)
  | D :: r, w, hn, hd, h => by
    rw [List.nodup_cons] at hn
    have h0 := hd D (by simp)
    have hg := grownBy_putObj' w D (.deferred none)
    have hM : Mod (fun k => k = D) w (w.putObj D (.deferred none)) := ⟨hg.os, hg.tape, hg.output, hg.size, fun k hk hne => hg.block k hk (fun e => hne (by cases e; rfl))⟩
    refine ⟨by simp, .inl ⟨D, _, rfl, run_takeDeferred h0, leaves_marks r _ hn.2 (fun E hE => ?_) (fun w' hw => h w' ?_)⟩⟩
    · exact hM.keep (hd E (by simp [hE])) (fun e => hn.1 (by rw [← e]; exact hE))
    · refine (hM.mono (fun k _ e => ?_)).trans hw (fun k _ hk => ?_)
      · show k ∈ D :: r
        rw [e]; simp
      · show k ∈ D :: r
        exact List.mem_cons_of_mem _ hk

theorem wp_loopJ {P : Program} {c : Code} {Q : Exit → Act → World → Prop} {a : Act} {w : World} (I : Act → World → Prop) (μ : Act → World → Nat) (h₀ : I a w)
    (round : ∀ a w, I a w → ∀ J : Act → World → Prop, (∀ a' w', I a' w' → μ a' w' < μ a w → J a' w') → c.wp P (Exit.then J Q) a w) : (Code.loop c).wp P Q a w :=
  wp_loop I μ h₀ (fun a w h => round a w h _ (fun _ _ h1 h2 => ⟨h1, h2⟩))

theorem ownFrom_dom {h : Hdr} {own : Own'} {wc : World} (hl : ∀ k, wc.heap.size ≤ k → own k = none) (f : List Int → St) {B : Nat} (hB : wc.heap.size ≤ B) : OwnFrom B (fun (pre : List Int) W => DomAt W h own (f pre) ∧ Mod (Mut own) wc W) := by
  rintro s W W' row ⟨hD, hM⟩ hg hr
  have hX : Mod (fun k => row = some k) W W' := ⟨hg.os, hg.tape, hg.output, hg.size, fun k hk hne => hg.block k hk (fun e => hne e.symm)⟩
  have hx : ∀ j, row = some j → own j = none := fun j e => hl j (Nat.le_trans hB (hr j e).1)
  refine ⟨hD.mod hX hx, hM.trans hX (fun i hi e => ?_)⟩
  have := (hr i e).1
  omega

set_option maxRecDepth 100000 in
set_option maxHeartbeats 40000000 in
theorem join_d (R : Ending → World → Prop) (w : World) (h : Hdr) (own : Own') (S : St) (slot : Int) (vl : Value) (ls : List Lab) (ok : Nat → Prop) (ws : List Nat) (K : Int) (D : DomAt w h own S) (hok : ∀ k, ok k → k < w.heap.size ∧ ¬ Mut own k) (hl : Labs w ok vl ls) (hll : ls.length ≤ 32)
    (hs : 0 ≤ slot ∧ slot < 512) (hav : AV S) (hon : S.on slot = some ws) (hfew : Few S) (hK : 0 ≤ K ∧ K ≤ 1152921504606846976) (hsm : Small S K)
    (hR : ∀ own' w', DomAt w' h own' (joinS S slot ls) → Ext w own own' → Mod (Mut own) w w' → R (.returned (.tuple #[])) w') :
    Calls Tryz.prog 56 #[.pointer (some ⟨h.d, 0, none⟩), .int .i64 slot, vl] w R := by
  have HR := Lib.hid hR
  clear hR
  obtain ⟨Al, cl, e, hlc, _⟩ := hl.form
  subst e
  have HL := Lib.hid hl
  have HD := Lib.hid D
  have HOK := Lib.hid hok
  clear hl hok
  refine callsIn_wide.1 (callsIn_of_wp_marks (n := 6) Tryz.func56 rfl trivial ?_ rfl)
  refine wpIn_wide.2 ?_
  simp only [Tryz.ntmps56, List.size_toArray, List.length_cons, List.length_nil, Nat.reduceAdd, Nat.reduceSub, Array.replicate_succ, Array.replicate_zero, List.push_toArray, List.append_toArray, List.nil_append, List.cons_append]
  let hbp := bodyPost Tryz.prog Tryz.f56 R
  go_wp2_with fail
  have hown0 : own w.heap.size = none := D.lim _ (Nat.le_refl _)
  clear D
  refine wp_loopJ (fun a wr => ∃ (k : Nat) (own' : Own') (Ds : List Nat) (u7 u8 u9 u10 u11 u14 u15 u16 u17 u18 u19 u20 u21 u22 u23 u24 u25 u26 u27 u28 u29 u30 u31 u32 u33 u34 u35 u36 u37 u38 u39 u40 u41 u42 u43 u44 u45 u46 u47 u48 u49 u50 u51 u52 u53 u54 u55 u56 u57 u58 u59 u60 u61 u62 u63 u64 u65 u66 u67 u68 u69 u70 u71 u72 u73 u74 u75 u76 u77 u78 u79 u80 u81 u82 u83 u85 u86 u87 u88 u89 : Value), a = { tmps := #[.pointer (some ⟨h.d, 0, none⟩), .int .i64 slot, .slice Al ls.length cl, .pointer (some ⟨w.heap.size, 0, none⟩), undef, undef, undef, u7, u8, u9, u10, u11, .slice Al ls.length cl, .int .i64 ls.length, u14, u15, u16, u17, u18, u19, u20, u21, u22, u23, u24, u25, u26, u27, u28, u29, u30, u31, u32, u33, u34, u35, u36, u37, u38, u39, u40, u41, u42, u43, u44, u45, u46, u47, u48, u49, u50, u51, u52, u53, u54, u55, u56, u57, u58, u59, u60, u61, u62, u63, u64, u65, u66, u67, u68, u69, u70, u71, u72, u73, u74, u75, u76, u77, u78, u79, u80, u81, u82, u83, undef, u85, u86, u87, u88, u89, undef, undef, undef, undef, undef, undef, undef], defers := Ds.map mkD } ∧ u14 = .int .i64 k ∧ k ≤ ls.length ∧ DomAt wr h own' ((ls.take k).foldl (joinOne slot (onL S slot)) S) ∧ Ext w own own' ∧ Mod (Mut own) w wr ∧
    wr.heap[w.heap.size]? = some (.cells #[.pointer (some ⟨h.d, 0, none⟩)] 24) ∧ own' w.heap.size = none ∧ Ds.Nodup ∧ (∀ D ∈ Ds, w.heap.size ≤ D) ∧ ∀ D ∈ Ds, wr.heap[D]? = some (.deferred (some [])) ∧ own' D = none) (fun a _ => ls.length - (intOf (a.tmps.getD 14 undef)).toNat) ?atStart ?round
  case atStart => exact ⟨0, own, [], _, _, _, _, _, _, _, _, _, _, _, _, _, _, _, _, _, _, _, _, _, _, _, _, _, _, _, _, _, _, _, _, _, _, _, _, _, _, _, _, _, _, _, _, _, _, _, _, _, _, _, _, _, _, _, _, _, _, _, _, _, _, _, _, _, _, _, _, _, _, _, _, _, _, _, _, _, _, _, _, rfl, rfl, Nat.zero_le _, HD.out.alloc _, Ext.refl _ _, ((Mod.refl Non w).alloc _).non_to, heap_alloc_new _ _, hown0, List.nodup_nil, fun _ h => by simp at h, fun _ h => by simp at h⟩
  case round =>
    intro a wr hinv J hJJ
    obtain ⟨k, own1, Ds, hinv⟩ := hinv
    obtain ⟨u7, hinv⟩ := hinv
    obtain ⟨u8, hinv⟩ := hinv
    obtain ⟨u9, hinv⟩ := hinv
    obtain ⟨u10, hinv⟩ := hinv
    obtain ⟨u11, hinv⟩ := hinv
    obtain ⟨u14, hinv⟩ := hinv
    obtain ⟨u15, hinv⟩ := hinv
    obtain ⟨u16, hinv⟩ := hinv
    obtain ⟨u17, hinv⟩ := hinv
    obtain ⟨u18, hinv⟩ := hinv
    obtain ⟨u19, hinv⟩ := hinv
    obtain ⟨u20, hinv⟩ := hinv
    obtain ⟨u21, hinv⟩ := hinv
    obtain ⟨u22, hinv⟩ := hinv
    obtain ⟨u23, hinv⟩ := hinv
    obtain ⟨u24, hinv⟩ := hinv
    obtain ⟨u25, hinv⟩ := hinv
    obtain ⟨u26, hinv⟩ := hinv
    obtain ⟨u27, hinv⟩ := hinv
    obtain ⟨u28, hinv⟩ := hinv
    obtain ⟨u29, hinv⟩ := hinv
    obtain ⟨u30, hinv⟩ := hinv
    obtain ⟨u31, hinv⟩ := hinv
    obtain ⟨u32, hinv⟩ := hinv
    obtain ⟨u33, hinv⟩ := hinv
    obtain ⟨u34, hinv⟩ := hinv
    obtain ⟨u35, hinv⟩ := hinv
    obtain ⟨u36, hinv⟩ := hinv
    obtain ⟨u37, hinv⟩ := hinv
    obtain ⟨u38, hinv⟩ := hinv
    obtain ⟨u39, hinv⟩ := hinv
    obtain ⟨u40, hinv⟩ := hinv
    obtain ⟨u41, hinv⟩ := hinv
    obtain ⟨u42, hinv⟩ := hinv
    obtain ⟨u43, hinv⟩ := hinv
    obtain ⟨u44, hinv⟩ := hinv
    obtain ⟨u45, hinv⟩ := hinv
    obtain ⟨u46, hinv⟩ := hinv
    obtain ⟨u47, hinv⟩ := hinv
    obtain ⟨u48, hinv⟩ := hinv
    obtain ⟨u49, hinv⟩ := hinv
    obtain ⟨u50, hinv⟩ := hinv
    obtain ⟨u51, hinv⟩ := hinv
    obtain ⟨u52, hinv⟩ := hinv
    obtain ⟨u53, hinv⟩ := hinv
    obtain ⟨u54, hinv⟩ := hinv
    obtain ⟨u55, hinv⟩ := hinv
    obtain ⟨u56, hinv⟩ := hinv
    obtain ⟨u57, hinv⟩ := hinv
    obtain ⟨u58, hinv⟩ := hinv
    obtain ⟨u59, hinv⟩ := hinv
    obtain ⟨u60, hinv⟩ := hinv
    obtain ⟨u61, hinv⟩ := hinv
    obtain ⟨u62, hinv⟩ := hinv
    obtain ⟨u63, hinv⟩ := hinv
    obtain ⟨u64, hinv⟩ := hinv
    obtain ⟨u65, hinv⟩ := hinv
    obtain ⟨u66, hinv⟩ := hinv
    obtain ⟨u67, hinv⟩ := hinv
    obtain ⟨u68, hinv⟩ := hinv
    obtain ⟨u69, hinv⟩ := hinv
    obtain ⟨u70, hinv⟩ := hinv
    obtain ⟨u71, hinv⟩ := hinv
    obtain ⟨u72, hinv⟩ := hinv
    obtain ⟨u73, hinv⟩ := hinv
    obtain ⟨u74, hinv⟩ := hinv
    obtain ⟨u75, hinv⟩ := hinv
    obtain ⟨u76, hinv⟩ := hinv
    obtain ⟨u77, hinv⟩ := hinv
    obtain ⟨u78, hinv⟩ := hinv
    obtain ⟨u79, hinv⟩ := hinv
    obtain ⟨u80, hinv⟩ := hinv
    obtain ⟨u81, hinv⟩ := hinv
    obtain ⟨u82, hinv⟩ := hinv
    obtain ⟨u83, hinv⟩ := hinv
    obtain ⟨u85, hinv⟩ := hinv
    obtain ⟨u86, hinv⟩ := hinv
    obtain ⟨u87, hinv⟩ := hinv
    obtain ⟨u88, hinv⟩ := hinv
    obtain ⟨u89, hinv⟩ := hinv
    obtain ⟨ha, rfl, hk, Dk, hEk, hMk, hbk, hok0, hDn, hDw, hDm⟩ := hinv
    subst ha
    try dsimp only
    have HJJ := Lib.hid hJJ
    clear hJJ
    have hlr : Labs wr ok (.slice Al ls.length cl) ls := SlK.move labOk HL.out (fun j hj => hMk.block j (HOK.out j hj).1 (HOK.out j hj).2)
    by_cases hkl : k < ls.length
    · obtain ⟨l, hl⟩ : ∃ l, ls[k]'hkl = l := ⟨_, rfl⟩
      obtain ⟨T, hT⟩ : ∃ T, (ls.take k).foldl (joinOne slot (onL S slot)) S = T := ⟨_, rfl⟩
      have hT2 : (ls.take (k + 1)).foldl (joinOne slot (onL S slot)) S = joinOne slot (onL S slot) T l := by
        rw [List.take_succ_eq_append_getElem hkl, List.foldl_append, hT, hl]; rfl
      rw [hT] at Dk
      obtain ⟨b, off, c', he, _, _, hbk2, hbl, hce⟩ := hlr.addr (by omega)
      simp only [Value.slice.injEq] at he
      obtain ⟨rfl, -, rfl⟩ := he
      obtain ⟨c0, c1⟩ := lab_cells hce k hkl
      rw [hl] at c0 c1
      clear hce hlr
      have HTT := Lib.hid hT
      have HT2 := Lib.hid hT2
      have HLL := Lib.hid hl
      have HDk := Lib.hid Dk
      have HMk := Lib.hid hMk
      have HEk := Lib.hid hEk
      have HBk := Lib.hid hbk
      have hlk : k < wr.heap.size ∨ True := .inr trivial
      have HDm := Lib.hid hDm
      have HDn := Lib.hid hDn
      have HDw := Lib.hid hDw
      clear hlk hT hT2 hl Dk hMk hEk hbk hDm hDn hDw
      go_upto_region 6 with fail
      go_cut [7, 8, 10] (fun v7 v8 v10 wr => ∃ B7 B8, v7 = .pointer (some ⟨B7, 0, none⟩) ∧ v8 = .pointer (some ⟨B8, 0, none⟩) ∧ v10 = .bool (T.areas (spotOf l)).isSome ∧ JS w own h l Ds w.heap.size B7 B8 T wr)
      case first =>
        have hn7 : own1 wr.heap.size = none := HDk.out.lim _ (Nat.le_refl _)
        have hn8 : own1 (wr.heap.size + 1) = none := HDk.out.lim _ (by omega)
        have hJ : JS w own h l Ds w.heap.size wr.heap.size (wr.heap.size + 1) T ((wr.alloc (.cells #[.string l.key, .string l.val] 108)).alloc (.cells #[.string l.key, .string l.val] 143)) := by
          refine ⟨own1, (HDk.out.alloc _).alloc _, HEk.out, (HMk.out.alloc _).alloc _, heap_keep (heap_keep HBk.out _) _, hok0, heap_keep (heap_alloc_new _ _) _, hn7, ?_, hn8, fun D hD => ⟨heap_keep (heap_keep (HDm.out D hD).1 _) _, (HDm.out D hD).2⟩⟩
          have := heap_alloc_new (wr.alloc (.cells #[.string l.key, .string l.val] 108)) (.cells #[.string l.key, .string l.val] 143)
          rwa [World.size_alloc] at this
        generalize hW2 : (wr.alloc (.cells #[.string l.key, .string l.val] 108)).alloc (.cells #[.string l.key, .string l.val] 143) = W2 at *
        have HJ := Lib.hid hJ
        obtain ⟨own2, D2, _, _, b0, _, b7, _, b8, _, _⟩ := hJ
        have x0 : W2.cell? ⟨w.heap.size, 0, none⟩ = some (.pointer (some ⟨h.d, 0, none⟩)) := cell_at b0 rfl
        have x3 : W2.cell? ⟨h.d, 3, none⟩ = some (.map (some h.a)) := cell_at D2.hd rfl
        have x8 : W2.cell? ⟨wr.heap.size + 1, 0, none⟩ = some (.string l.key) := cell_at b8 rfl
        have x9 : W2.cell? ⟨wr.heap.size + 1, 1, none⟩ = some (.string l.val) := cell_at b8 rfl
        obtain ⟨m, hm, hmf⟩ := D2.fa
        have hat := hmf (spotOf l)
        have hex : ∃ p q, (aget m (spotOf l)).getD (.agg #[.pointer none, .pointer none]) = .agg #[.pointer p, .pointer q] := by
          cases e : aget m (spotOf l) with
          | none => exact ⟨none, none, rfl⟩
          | some v =>
            rw [e] at hat
            cases e2 : T.areas (spotOf l) with
            | none => rw [e2] at hat; exact hat.elim
            | some p =>
              rw [e2] at hat
              obtain ⟨sA, bA, sP, bP, rfl, _⟩ := hat
              exact ⟨_, _, rfl⟩
        have his : (aget m (spotOf l)).isSome = (T.areas (spotOf l)).isSome := by
          cases e : aget m (spotOf l) <;> cases e2 : T.areas (spotOf l) <;> rw [e, e2] at hat <;> first | rfl | exact hat.elim
        obtain ⟨pA, pP, hpq⟩ := hex
        have l1 := (hm.move (w' := W2.drew) rfl).lookup spotK Tryz.underlying121 (z := .agg #[.pointer none, .pointer none]) (by kernel_rfl) (spotOf l) true
        rw [hpq, his] at l1
        simp only [spotOf, spotV, if_true] at l1
        have x0' := cell_old x0 (.cells #[.pointer none, .pointer none] 167)
        have x3' := cell_old x3 (.cells #[.pointer none, .pointer none] 167)
        have x8' := cell_old x8 (.cells #[.pointer none, .pointer none] 167)
        have x9' := cell_old x9 (.cells #[.pointer none, .pointer none] 167)
        have l1' := (hm.mod (((Mod.refl Non W2).alloc (.cells #[.pointer none, .pointer none] 167)).drew) (fun h => h)).lookup spotK Tryz.underlying121 (z := .agg #[.pointer none, .pointer none]) (by kernel_rfl) (spotOf l) true
        rw [hpq, his] at l1'
        simp only [spotOf, spotV, if_true] at l1'
        clear hpq his hat hmf hm D2 b0 b7 b8 hW2
        go_region
        all_goals (
          go_wp2_with fail
          go_meet
          exact ⟨_, _, rfl, rfl, rfl, HJ.out.below (Below.alloc (Below.refl _ _) (Nat.le_refl _) _).drew⟩)
      case rest =>
        obtain ⟨B7, B8, rfl, rfl, rfl, hJ⟩ := hcut
        go_step
        go_cut [7, 8, 10] (fun v7 v8 _ wr => ∃ B7 B8, v7 = .pointer (some ⟨B7, 0, none⟩) ∧ v8 = .pointer (some ⟨B8, 0, none⟩) ∧ JS w own h l Ds w.heap.size B7 B8 (mkArea T l) wr)
        case first =>
          cases hA : T.areas (spotOf l) with
          | some p =>
            have e0 : mkArea T l = T := by unfold mkArea; rw [hA]
            go_wp2_with fail
            go_meet
            exact ⟨_, _, rfl, rfl, by rw [e0]; exact hJ⟩
          | none =>
            obtain ⟨T1, hT1⟩ : ∃ T1 : St, T1 = { T with areas := upd T.areas (spotOf l) (some (List.replicate 8 0, List.replicate 32 0)) } := ⟨_, rfl⟩
            have HT1 := Lib.hid hT1
            have HA := Lib.hid hA
            clear hA hT1
            go_wp2_with fail
            go_cut [7, 8] (fun v7 v8 wr => ∃ B7 B8, v7 = .pointer (some ⟨B7, 0, none⟩) ∧ v8 = .pointer (some ⟨B8, 0, none⟩) ∧ JS w own h l Ds w.heap.size B7 B8 T1 wr)
            case first =>
              obtain ⟨own2, D2, hE2, hM2, b0, o0, b7, o7, b8, o8, hmk⟩ := hJ
              have HMK := Lib.hid hmk
              clear hmk
              have x0 : wc.cell? ⟨w.heap.size, 0, none⟩ = some (.pointer (some ⟨h.d, 0, none⟩)) := cell_at b0 rfl
              have x3 : wc.cell? ⟨h.d, 3, none⟩ = some (.map (some h.a)) := cell_at D2.hd rfl
              have x8 : wc.cell? ⟨B8, 0, none⟩ = some (.string l.key) := cell_at b8 rfl
              have x9 : wc.cell? ⟨B8, 1, none⟩ = some (.string l.val) := cell_at b8 rfl
              have i0 : w.heap.size < wc.heap.size := (Array.getElem?_eq_some_iff.1 b0).1
              have i3 : h.d < wc.heap.size := D2.lt D2.od
              have ia : h.a < wc.heap.size := D2.lt D2.oa
              have i8 : B8 < wc.heap.size := (Array.getElem?_eq_some_iff.1 b8).1
              obtain ⟨m, hm, hmf⟩ := D2.fa
              obtain ⟨oU, hU⟩ := hm.update_any spotK Tryz.underlying121 (spotOf l)
              have HU := Lib.hid hU
              have HD2 := Lib.hid D2
              have HE2 := Lib.hid hE2
              have HM2 := Lib.hid hM2
              have Hb0 := Lib.hid b0
              have Hb7 := Lib.hid b7
              have Hb8 := Lib.hid b8
              have HMF := Lib.hid hmf
              have HMm := Lib.hid hm
              clear hU D2 hE2 hM2 b0 b7 b8 hmf hm
              have nA0 : ¬ w.heap.size = h.a := fun e => by have := HD2.out.oa; rw [← e, o0] at this; cases this
              have nA8 : ¬ B8 = h.a := fun e => by have := HD2.out.oa; rw [← e, o8] at this; cases this
              have nAd : ¬ h.d = h.a := fun e => by have h1 := HD2.out.oa; rw [← e, HD2.out.od] at h1; cases h1
              have HK := Lib.hid (show ∀ w', Mod (fun k => k = h.a) wc w' → Mod (fun k => k = h.a) wc w' ∧ w'.cell? ⟨w.heap.size, 0, none⟩ = some (.pointer (some ⟨h.d, 0, none⟩)) ∧ w'.cell? ⟨h.d, 3, none⟩ = some (.map (some h.a)) ∧ w'.cell? ⟨B8, 0, none⟩ = some (.string l.key) ∧ w'.cell? ⟨B8, 1, none⟩ = some (.string l.val) from
                fun w' hw => ⟨hw, hw.cell' x0 nA0, hw.cell' x3 nAd, hw.cell' x8 nA8, hw.cell' x9 nA8⟩)
              go_region_held3 (fun w' => Mod (fun k => k = h.a) wc w' ∧ w'.cell? ⟨w.heap.size, 0, none⟩ = some (.pointer (some ⟨h.d, 0, none⟩)) ∧ w'.cell? ⟨h.d, 3, none⟩ = some (.map (some h.a)) ∧ w'.cell? ⟨B8, 0, none⟩ = some (.string l.key) ∧ w'.cell? ⟨B8, 1, none⟩ = some (.string l.val))
                (first
                | exact HK.out _ ((Mod.refl _ wc).drew)
                | exact HK.out _ yM
                | exact HK.out _ zM
                | exact HK.out _ (zM.put (fun _ => rfl) _))
                (first
                | (go_at_call_of 55 (Value.int .i64 512); refine bitmap_k _ _ 512 (by decide) ?_; intro s1 c1 w1 g1 g2 g3 hSA
                   have yb := Below.of_drew g1
                   have yM : Mod (fun k => k = h.a) wc w1 := (Mod.of_below yb).non_to)
                | (go_at_call_of 55 (Value.int .i64 2048); refine bitmap_k _ _ 2048 (by decide) ?_; intro s2 c2 w2 g5 g6 g7 hSB
                   have zb : Below wc.heap.size wc w2 := yb.trans (g5.mono yb.size)
                   have zM : Mod (fun k => k = h.a) wc w2 := (Mod.of_below zb).non_to
                   have zu : ∀ v, (Instr.mapUpdate 121 (.map (some h.a)) (.agg #[.string l.key, .string l.val]) v).run Tryz.prog w2 = _ := fun v => (HU.out w2 (zb.block h.a ia) v).1
                   have hSA2 := hSA.move (g5.block _ hSA.lt.1) (g5.block _ hSA.lt.2)))
              all_goals (
                go_wp2_with fail
                go_meet
                have hN := HD2.out.newArea zb hSA2 hSB ⟨g2, g3, by have := yb.size; omega, by have := yb.size; omega⟩ ⟨by have := hSA.lt; omega, by have := hSA.lt; omega, by have := hSA.lt; omega⟩ HMF.out (HU.out w2 (zb.block h.a ia) _).2 (putObj_mod _ _ _)
                obtain ⟨nE, nC, nD⟩ := hN
                have nk : ∀ b, own2 b = none → b < wc.heap.size → areaOwn own2 (spotOf l) s1 c1 s2 c2 b = none := fun b ob hb => (nE b hb).trans ob
                have i7 := (Array.getElem?_eq_some_iff.1 Hb7.out).1
                have hx : ∀ b, own2 b = none → ¬ b = h.a := fun b ob e => by have := HD2.out.oa; rw [← e, ob] at this; cases this
                have zP := zM.put (b := h.a) (fun _ => rfl) (oU (Value.agg #[Value.pointer (some ⟨s1, 0, none⟩), Value.pointer (some ⟨s2, 0, none⟩)]) w2)
                exact ⟨_, _, rfl, rfl, areaOwn own2 (spotOf l) s1 c1 s2 c2, by rw [HT1.out]; exact nD, HE2.out.trans nE HM2.out.size, HM2.out.chain (zP.to_mut HD2.out.oa (by simp)) HE2.out, zP.keep Hb0.out (hx _ o0), nk _ o0 i0, zP.keep Hb7.out (hx _ o7), nk _ o7 i7, zP.keep Hb8.out (hx _ o8), nk _ o8 i8, fun D hD => ⟨zP.keep (HMK.out D hD).1 (hx _ (HMK.out D hD).2), nk _ (HMK.out D hD).2 (Array.getElem?_eq_some_iff.1 (HMK.out D hD).1).1⟩⟩)
            case rest =>
              obtain ⟨B7, B8, rfl, rfl, hJ⟩ := hcut
              go_step
              obtain ⟨own2, D2, hE2, hM2, b0, o0, b7, o7, b8, o8, hmk⟩ := hJ
              have HMK := Lib.hid hmk
              clear hmk
              have x0 : wc.cell? ⟨w.heap.size, 0, none⟩ = some (.pointer (some ⟨h.d, 0, none⟩)) := cell_at b0 rfl
              have x4 : wc.cell? ⟨h.d, 4, none⟩ = some (.map (some h.v)) := cell_at D2.hd rfl
              have x7 : wc.cell? ⟨B7, 0, none⟩ = some (.string l.key) := cell_at b7 rfl
              have x7' : wc.cell? ⟨B7, 1, none⟩ = some (.string l.val) := cell_at b7 rfl
              obtain ⟨m, hm, hmf⟩ := D2.fv
              have hat := hmf l.key
              have HJ := Lib.hid (show JS w own h l Ds w.heap.size B7 B8 T1 wc from ⟨own2, D2, hE2, hM2, b0, o0, b7, o7, b8, o8, HMK.out⟩)
              have l1 := (hm.move (w' := wc.drew) rfl).lookup strK Tryz.underlying122 (z := .map none) (by kernel_rfl) l.key false
              simp only [Bool.false_eq_true, if_false] at l1
              have HM := Lib.hid hm
              have HMF := Lib.hid hmf
              clear hm hmf
              cases hV : T1.values l.key with
              | some g =>
                rw [hV] at hat
                obtain ⟨v, hv, bI, rfl, oI, fI⟩ := hat.some_l
                rw [hv] at l1
                simp only [Option.getD_some] at l1
                have e2 : mkArea T l = T1 := by
                  have eT : T1.values = T.values := by rw [HT1.out]
                  unfold mkArea
                  rw [HA.out, HT1.out]
                  simp only [St.mk.injEq, true_and, and_true]
                  have : innerG T l.key = g := by unfold innerG; rw [← eT, hV]
                  rw [this]
                  funext j
                  by_cases ej : j = l.key
                  · subst ej; rw [upd_same, ← eT, hV]
                  · rw [upd_ne _ _ ej]
                have E2 := Lib.hid e2
                have HV := Lib.hid hV
                clear e2 hat hv hV fI D2
                have q1 := run_eql_map_nil (P := Tryz.prog) wc.drew 159 _ _ (some bI) Tryz.underlying159
                simp only [Option.isNone_some] at q1
                go_wp2_with fail
                go_region
                all_goals (
                  go_wp2_with fail
                  go_meet
                  exact ⟨_, _, rfl, rfl, by rw [E2.out]; exact HJ.out.below ((Below.refl _ _).drew)⟩)
              | none =>
                rw [hV] at hat
                rw [hat.none_l] at l1
                simp only [Option.getD_none] at l1
                have e2 : mkArea T l = { T1 with values := upd T1.values l.key (some fun _ => none) } := by
                  have eT : T1.values = T.values := by rw [HT1.out]
                  unfold mkArea
                  rw [HA.out, HT1.out]
                  simp only [St.mk.injEq, true_and, and_true]
                  have : innerG T l.key = fun _ => none := by unfold innerG; rw [← eT, hV]
                  rw [this]
                have E2 := Lib.hid e2
                have HV := Lib.hid hV
                have q1 := run_eql_map_nil (P := Tryz.prog) wc.drew 159 _ _ none Tryz.underlying159
                simp only [Option.isNone_none] at q1
                have ia : h.v < wc.heap.size := D2.lt D2.ov
                have nA0 : ¬ w.heap.size = h.v := fun e => by have := D2.ov; rw [← e, o0] at this; cases this
                have nA7 : ¬ B7 = h.v := fun e => by have := D2.ov; rw [← e, o7] at this; cases this
                have nAd : ¬ h.d = h.v := fun e => by have h1 := D2.ov; rw [← e, D2.od] at h1; cases h1
                obtain ⟨oU, hU⟩ := HM.out.update_any strK Tryz.underlying122 l.key
                have HU := Lib.hid hU
                have HD2 := Lib.hid D2
                clear e2 hat hV D2 hU
                go_wp2_with fail
                go_region
                all_goals (
                  go_wp2_with fail
                  have hmm := @run_makeMap Tryz.prog
                  have zu : ∀ v, (Instr.mapUpdate 122 (.map (some h.v)) (.string l.key) v).run Tryz.prog ((wc.alloc (.map #[] 0)).drew.drew) = _ := fun v => (HU.out ((wc.alloc (.map #[] 0)).drew.drew) (Below.heap_alloc wc (.map #[] 0) _ ia) v).1
                  have HK := Lib.hid (show ∀ w', Mod (fun k => k = h.v) wc w' → Mod (fun k => k = h.v) wc w' ∧ w'.cell? ⟨w.heap.size, 0, none⟩ = some (.pointer (some ⟨h.d, 0, none⟩)) ∧ w'.cell? ⟨h.d, 4, none⟩ = some (.map (some h.v)) ∧ w'.cell? ⟨B7, 0, none⟩ = some (.string l.key) from
                    fun w' hw => ⟨hw, hw.cell' x0 nA0, hw.cell' x4 nAd, hw.cell' x7 nA7⟩)
                  go_region_held3 (fun w' => Mod (fun k => k = h.v) wc w' ∧ w'.cell? ⟨w.heap.size, 0, none⟩ = some (.pointer (some ⟨h.d, 0, none⟩)) ∧ w'.cell? ⟨h.d, 4, none⟩ = some (.map (some h.v)) ∧ w'.cell? ⟨B7, 0, none⟩ = some (.string l.key))
                    (first
                    | exact HK.out _ ((Mod.refl _ wc).drew.drew)
                    | exact HK.out _ (((Mod.refl _ wc).drew.drew).alloc _)
                    | exact HK.out _ (Mod.put (S := fun k => k = h.v) (b := h.v) (((Mod.refl _ wc).alloc (.map #[] 0)).drew.drew) (fun _ => rfl) _))
                    (fail)
                  all_goals (
                    go_wp2_with fail
                    go_meet
                    obtain ⟨nE, nD⟩ := HD2.out.newKey (w2 := (wc.alloc (.map #[] 0)).drew.drew) (b := wc.heap.size) (((Below.refl _ wc).alloc (Nat.le_refl _) _).drew.drew) (Nat.le_refl _) (heap_alloc_new wc _) HMF.out (HU.out ((wc.alloc (.map #[] 0)).drew.drew) (Below.heap_alloc wc (.map #[] 0) _ ia) _).2 (putObj_mod _ _ _)
                    have zP := (((Mod.refl (fun k => k = h.v) wc).alloc (.map #[] 0)).drew.drew).put (b := h.v) (fun _ => rfl) (oU (.map (some wc.heap.size)) ((wc.alloc (.map #[] 0)).drew.drew))
                    have nk : ∀ b, own2 b = none → b < wc.heap.size → addOwn own2 wc.heap.size (.inner l.key) b = none := fun b ob hb => (nE b hb).trans ob
                    have hx : ∀ b, own2 b = none → ¬ b = h.v := fun b ob e => by have := HD2.out.ov; rw [← e, ob] at this; cases this
                    exact ⟨_, _, rfl, rfl, addOwn own2 wc.heap.size (.inner l.key), by rw [E2.out]; exact nD, hE2.trans nE hM2.size, hM2.chain (zP.to_mut HD2.out.ov (by simp)) hE2, zP.keep b0 (hx _ o0), nk _ o0 (Array.getElem?_eq_some_iff.1 b0).1, zP.keep b7 (hx _ o7), nk _ o7 (Array.getElem?_eq_some_iff.1 b7).1, zP.keep b8 (hx _ o8), nk _ o8 (Array.getElem?_eq_some_iff.1 b8).1, fun D hD => ⟨zP.keep (HMK.out D hD).1 (hx _ (HMK.out D hD).2), nk _ (HMK.out D hD).2 (Array.getElem?_eq_some_iff.1 (HMK.out D hD).1).1⟩⟩))
        case rest =>
          obtain ⟨B7, B8, rfl, rfl, hJ⟩ := hcut
          have hAVT : AV T := by rw [← HTT.out]; exact hav.joinFold _ _ _
          have hFewT : Few T := hfew.of (by rw [← HTT.out]; exact (joinFold_fields _ _ _ _).1)
          have hpl : (onL S slot).length ≤ 2048 := by unfold onL; rw [hon]; exact mems_length_le _ _
          have hSmT : Small T (K + 2097184) := by
            rw [← HTT.out]
            exact (small_joinFold slot hpl (ls.take k) hfew hsm hK.1).mono (by rw [List.length_take]; omega)
          obtain ⟨T2, hT2⟩ : ∃ T2 : St, T2 = mkArea T l := ⟨_, rfl⟩
          obtain ⟨hav2, hia2, hiv2⟩ := hAVT.mkArea l
          have hSm2 := small_mkArea hSmT l
          have hg2 : T2.guests = T.guests := by rw [hT2]; unfold mkArea; split <;> rfl
          rw [← hT2] at hJ hav2 hia2 hiv2 hSm2
          have HTD := Lib.hid hT2
          have HAV := Lib.hid hav2
          have HSM := Lib.hid hSm2
          have HFEW := Lib.hid (hFewT.of hg2)
          have HIA := Lib.hid hia2
          have HPL := Lib.hid hpl
          obtain ⟨g, hg⟩ := Option.isSome_iff_exists.1 hiv2
          have HG := Lib.hid hg
          clear hAVT hFewT hpl hSmT hT2 hav2 hia2 hiv2 hSm2 hg2
          go_wp2_with fail
          go_cut [7, 8] (fun v7 v8 wr => ∃ B7 B8, v7 = .pointer (some ⟨B7, 0, none⟩) ∧ v8 = .pointer (some ⟨B8, 0, none⟩) ∧ JS w own h l Ds w.heap.size B7 B8 (bumpV T2 l 1) wr)
          case first =>
            obtain ⟨own2, D2, hE2, hM2, b0, o0, b7, o7, b8, o8, hmk⟩ := hJ
            have HMK := Lib.hid hmk
            clear hmk
            have x0 : wc.cell? ⟨w.heap.size, 0, none⟩ = some (.pointer (some ⟨h.d, 0, none⟩)) := cell_at b0 rfl
            have x4 : wc.cell? ⟨h.d, 4, none⟩ = some (.map (some h.v)) := cell_at D2.hd rfl
            have x7 : wc.cell? ⟨B7, 0, none⟩ = some (.string l.key) := cell_at b7 rfl
            have x7' : wc.cell? ⟨B7, 1, none⟩ = some (.string l.val) := cell_at b7 rfl
            obtain ⟨m, hm, hmf⟩ := D2.fv
            have hat := hmf l.key
            rw [hg] at hat
            obtain ⟨v, hv, bI, rfl, oI, mi, hmi, hfi⟩ := hat.some_l
            have l1 := (hm.move (w' := wc.drew) rfl).lookup strK Tryz.underlying122 (z := .map none) (by kernel_rfl) l.key false
            rw [hv] at l1
            simp only [Bool.false_eq_true, if_false, Option.getD_some] at l1
            have hq : (aget mi l.val).getD (.int .i64 0) = .int .i64 ((g l.val).getD 0) := by
              have := hfi l.val
              cases e1 : aget mi l.val <;> cases e2 : g l.val <;> rw [e1, e2] at this
              · rfl
              · exact this.elim
              · exact this.elim
              · exact this
            have l2 := (hmi.move (w' := wc.drew) rfl).lookup strK Tryz.underlying159 (z := .int .i64 0) (by kernel_rfl) l.val false
            rw [hq] at l2
            simp only [Bool.false_eq_true, if_false] at l2
            have hqb := HSM.out.getV (by omega) l.key l.val
            have hig : innerG T2 l.key = g := by unfold innerG; rw [hg]
            rw [hig] at hqb
            obtain ⟨oU, hU⟩ := hmi.update_any strK Tryz.underlying159 l.val
            have hbu : bumpV T2 l 1 = { T2 with values := upd T2.values l.key (some (upd g l.val (some ((g l.val).getD 0 + 1)))) } := by unfold bumpV; rw [hig]
            obtain ⟨q, hqq⟩ : ∃ q, (g l.val).getD 0 = q := ⟨_, rfl⟩
            rw [hqq] at l2 hqb hbu
            have hb1 : IntKind.i64.wrap (q + 1) = q + 1 := by rw [IntKind.wrap_i64]; omega
            have zu : (Instr.mapUpdate 159 (.map (some bI)) (.string l.val) (.int .i64 (q + 1))).run Tryz.prog wc.drew = _ := (hU wc.drew rfl (.int .i64 (q + 1))).1
            have zm := (hU wc.drew rfl (.int .i64 (q + 1))).2
            have zg : FMap Value.string (putObj wc.drew bI (oU (.int .i64 (q + 1)) wc.drew)) bI numR (upd g l.val (some (q + 1))) := FMap.set hfi zm rfl (fun _ _ _ _ h => h)
            have zP : Mod (fun j => j = bI) wc (putObj wc.drew bI (oU (.int .i64 (q + 1)) wc.drew)) := (((Mod.refl (fun j => j = bI) wc).drew)).put (fun _ => rfl) _
            have zD := D2.setInner oI zP hm hmf hv zg
            rw [← hbu] at zD
            have hx : ∀ b, own2 b = none → ¬ b = bI := fun b ob e => by rw [← e, ob] at oI; cases oI
            have hxd : ¬ h.d = bI := fun e => by have h1 := D2.od; rw [e, oI] at h1; cases h1
            have zJ : JS w own h l Ds w.heap.size B7 B8 (bumpV T2 l 1) (putObj wc.drew bI (oU (.int .i64 (q + 1)) wc.drew)) := ⟨own2, zD, hE2, hM2.chain (zP.to_mut oI (by simp)) hE2, zP.keep b0 (hx _ o0), o0, zP.keep b7 (hx _ o7), o7, zP.keep b8 (hx _ o8), o8, fun D hD => ⟨zP.keep (HMK.out D hD).1 (hx _ (HMK.out D hD).2), (HMK.out D hD).2⟩⟩
            have HZJ := Lib.hid zJ
            have HK := Lib.hid (show ∀ w', Mod (fun j => j = bI) wc w' → Mod (fun j => j = bI) wc w' ∧ w'.cell? ⟨w.heap.size, 0, none⟩ = some (.pointer (some ⟨h.d, 0, none⟩)) ∧ w'.cell? ⟨h.d, 4, none⟩ = some (.map (some h.v)) ∧ w'.cell? ⟨B7, 0, none⟩ = some (.string l.key) ∧ w'.cell? ⟨B7, 1, none⟩ = some (.string l.val) from
              fun w' hw => ⟨hw, hw.cell' x0 (hx _ o0), hw.cell' x4 hxd, hw.cell' x7 (hx _ o7), hw.cell' x7' (hx _ o7)⟩)
            have HZP := Lib.hid zP
            clear zJ zD zg zm hbu hig hq hU hat hmf hm hmi hfi hv D2 hE2 hM2 b0 b7 b8 zP hqq hg hx
            go_region_held3 (fun w' => Mod (fun j => j = bI) wc w' ∧ w'.cell? ⟨w.heap.size, 0, none⟩ = some (.pointer (some ⟨h.d, 0, none⟩)) ∧ w'.cell? ⟨h.d, 4, none⟩ = some (.map (some h.v)) ∧ w'.cell? ⟨B7, 0, none⟩ = some (.string l.key) ∧ w'.cell? ⟨B7, 1, none⟩ = some (.string l.val))
              (first
              | exact HK.out _ ((Mod.refl _ wc).drew)
              | exact HK.out _ HZP.out)
              (fail)
            all_goals (
              go_wp2_with fail
              go_meet
              exact ⟨_, _, rfl, rfl, HZJ.out⟩)
          case rest =>
            obtain ⟨B7, B8, rfl, rfl, hJ⟩ := hcut
            clear hg
            obtain ⟨T3, hT3⟩ : ∃ T3 : St, T3 = bumpV T2 l 1 := ⟨_, rfl⟩
            rw [← hT3] at hJ
            have hia3 : (T3.areas (spotOf l)).isSome = true := by rw [hT3]; exact HIA.out
            obtain ⟨⟨x, y⟩, ha⟩ := Option.isSome_iff_exists.1 hia3
            have hsm3 : Small T3 (K + 2097185) := by rw [hT3]; exact (small_bumpV HSM.out (by omega) l 1 (by omega)).mono (by omega)
            have HSM3 := Lib.hid hsm3
            have HT3 := Lib.hid hT3
            have HA3 := Lib.hid ha
            clear hT3 hia3 hsm3 ha
            go_wp2_with fail
            go_cut [7, 8] (fun v7 v8 wr => ∃ B7 B8, v7 = .pointer (some ⟨B7, 0, none⟩) ∧ v8 = .pointer (some ⟨B8, 0, none⟩) ∧ JS w own h l Ds w.heap.size B7 B8 (nodeSet T3 l slot true) wr)
            case first =>
              obtain ⟨own2, D2, hE2, hM2, b0, o0, b7, o7, b8, o8, hmk⟩ := hJ
              have HMK := Lib.hid hmk
              clear hmk
              have x0 : wc.cell? ⟨w.heap.size, 0, none⟩ = some (.pointer (some ⟨h.d, 0, none⟩)) := cell_at b0 rfl
              have x3 : wc.cell? ⟨h.d, 3, none⟩ = some (.map (some h.a)) := cell_at D2.hd rfl
              have x8 : wc.cell? ⟨B8, 0, none⟩ = some (.string l.key) := cell_at b8 rfl
              have x9 : wc.cell? ⟨B8, 1, none⟩ = some (.string l.val) := cell_at b8 rfl
              obtain ⟨m, sA, bA, sP, bP, A⟩ := D2.areaAt HA3.out
              have l1 := (A.hm.move (w' := wc.drew) rfl).lookup spotK Tryz.underlying121 (z := .agg #[.pointer none, .pointer none]) (by kernel_rfl) (spotOf l) false
              rw [A.hv] at l1
              simp only [Option.getD_some, spotOf, spotV, Bool.false_eq_true, if_false] at l1
              have l2 := fun W => area_nodes (.pointer (some ⟨sA, 0, none⟩)) (.pointer (some ⟨sP, 0, none⟩)) W
              have hx : ∀ b, own2 b = none → ¬ b = bA := fun b ob e => by have := A.oA; rw [← e, ob] at this; cases this
              have hxd : ¬ h.d = bA := fun e => by have h1 := D2.od; rw [e, A.oA] at h1; cases h1
              have HK := Lib.hid (show ∀ w', Mod (fun j => j = bA) wc w' → Mod (fun j => j = bA) wc w' ∧ w'.cell? ⟨w.heap.size, 0, none⟩ = some (.pointer (some ⟨h.d, 0, none⟩)) ∧ w'.cell? ⟨h.d, 3, none⟩ = some (.map (some h.a)) ∧ w'.cell? ⟨B8, 0, none⟩ = some (.string l.key) ∧ w'.cell? ⟨B8, 1, none⟩ = some (.string l.val) from
                fun w' hw => ⟨hw, hw.cell' x0 (hx _ o0), hw.cell' x3 hxd, hw.cell' x8 (hx _ o8), hw.cell' x9 (hx _ o8)⟩)
              have AA := Lib.hid A
              have HD2 := Lib.hid D2
              have HX := Lib.hid hx
              have Hb0 := Lib.hid b0
              have Hb7 := Lib.hid b7
              have Hb8 := Lib.hid b8
              have HM2 := Lib.hid hM2
              have HE2 := Lib.hid hE2
              clear A D2 hx b0 b7 b8 hM2 hE2
              go_region_held3 (fun w' => Mod (fun j => j = bA) wc w' ∧ w'.cell? ⟨w.heap.size, 0, none⟩ = some (.pointer (some ⟨h.d, 0, none⟩)) ∧ w'.cell? ⟨h.d, 3, none⟩ = some (.map (some h.a)) ∧ w'.cell? ⟨B8, 0, none⟩ = some (.string l.key) ∧ w'.cell? ⟨B8, 1, none⟩ = some (.string l.val))
                (first
                | exact HK.out _ ((Mod.refl _ wc).drew)
                | exact HK.out _ yM)
                (first
                | (go_at_call 59; refine add_k _ _ sA bA 512 x slot (AA.out.hA.move rfl rfl) ?_; intro vb w4 hM4 hS4
                   have yM : Mod (fun j => j = bA) wc w4 := (Mod.refl (fun j => j = bA) wc).drew.trans hM4 (fun _ _ e => e)))
              all_goals (
                go_wp2_with fail
                go_meet
                have zD := HD2.out.setAn AA.out.oA yM hS4 AA.out.hP AA.out.hm AA.out.hf AA.out.hv AA.out.iA AA.out.oP AA.out.iP
                have e4 : nodeSet T3 l slot true = { T3 with areas := upd T3.areas (spotOf l) (some (addW 512 x slot, y)) } := by unfold nodeSet; rw [HA3.out]; simp
                exact ⟨_, _, rfl, rfl, own2, by rw [e4]; exact zD, HE2.out, HM2.out.chain (yM.to_mut AA.out.oA (by simp)) HE2.out, yM.keep Hb0.out (HX.out _ o0), o0, yM.keep Hb7.out (HX.out _ o7), o7, yM.keep Hb8.out (HX.out _ o8), o8, fun D hD => ⟨yM.keep (HMK.out D hD).1 (HX.out _ (HMK.out D hD).2), (HMK.out D hD).2⟩⟩)
            case rest =>
              obtain ⟨B7, B8, rfl, rfl, hJ⟩ := hcut
              obtain ⟨T4, hT4⟩ : ∃ T4 : St, T4 = nodeSet T3 l slot true := ⟨_, rfl⟩
              rw [← hT4] at hJ
              have hJ1 : joinOne slot (onL S slot) T l = enterAll T4 (spotOf l) (onL S slot) 1 := by rw [hT4, HT3.out, HTD.out]; rfl
              obtain ⟨pf1, pf2, pf3, pf4⟩ := plus_fields T l slot
              have hon4 : T4.on slot = some ws := by
                rw [hT4, HT3.out, HTD.out, pf3, ← HTT.out, (joinFold_fields _ _ _ _).2.2]; exact hon
              have hia4 : (T4.areas (spotOf l)).isSome = true := by rw [hT4, HT3.out, HTD.out]; exact pf4
              have hf4 : Few T4 := HFEW.out.of (by rw [hT4, HT3.out]; exact (nodeSet_fields (bumpV T2 l 1) l slot true).1)
              have hsm4 : Small T4 (K + 2097185) := by rw [hT4]; exact small_nodeSet HSM3.out l slot true
              obtain ⟨own2, D2, hE2, hM2, b0, o0, b7, o7, b8, o8, hmk⟩ := hJ
              have x0 : wc.cell? ⟨w.heap.size, 0, none⟩ = some (.pointer (some ⟨h.d, 0, none⟩)) := cell_at b0 rfl
              have x2 : wc.cell? ⟨h.d, 2, none⟩ = some (.map (some h.o)) := cell_at D2.hd rfl
              obtain ⟨m, hm, hmf⟩ := D2.fo
              have hat := hmf slot
              rw [hon4] at hat
              obtain ⟨v, hv, sO, bO, rfl, hSO, oO, iO⟩ := hat.some_l
              have l1 := hm.lookup intK Tryz.underlying120 (z := .pointer none) (by kernel_rfl) slot false
              rw [hv] at l1
              simp only [Bool.false_eq_true, if_false, Option.getD_some] at l1
              have hol : onL S slot = mems 2048 ws := by unfold onL; rw [hon]
              have HOL := Lib.hid hol
              have HJ1 := Lib.hid hJ1
              have HIA4 := Lib.hid hia4
              have HF4 := Lib.hid hf4
              have HSM4 := Lib.hid hsm4
              have HD2 := Lib.hid D2
              have HE2 := Lib.hid hE2
              have HM2 := Lib.hid hM2
              have HB0 := Lib.hid b0
              have HB8 := Lib.hid b8
              have HMK := Lib.hid hmk
              have HSO := Lib.hid hSO
              have hlt := hSO.lt
              clear hol hJ1 hia4 hf4 hsm4 D2 hE2 hM2 b0 b7 b8 hmk hat hmf hm hv hon4 hT4 pf1 pf2 pf3 pf4 hSO
              go_wp2_with fail
              refine all_k _ _ (fun k => k = sO ∨ k = bO) _ 2048 ws (fun k hk => by rcases hk with rfl | rfl <;> omega) (.inr ⟨sO, bO, rfl, HSO.out, .inl rfl, .inr rfl⟩) (by decide) ?_
              intro Bs sv w5 hB5 hbs1 hbs2 hcs hsl
              rw [← HOL.out] at hsl
              go_wp2_with fail
              refine (wpIn_wide (n := 6)).1 ?_
              have hlim : ∀ k, wc.heap.size ≤ k → own2 k = none := HD2.out.lim
              refine' wpIn_rangeFunc_ownG (F := Fence.wide) (n := 6) rfl (by decide) (gf := 212) (lb := #[.pointer (some ⟨Bs, 0, none⟩)]) rfl trivial (enters_of Tryz.func212 (by kernel_rfl) rfl)
                (all_stops Fence.wide 5 trivial rfl (by decide) wc.heap.size Bs sv (natI (onL S slot)) (by have := HPL.out; simp [natI]; omega) w5 ⟨hbs1, hbs2⟩ hcs hsl) (fun {A B C} h k => KeepB.trans h k) (fun W l o o' hl h h1 h2 => keepB_b (Nat.le_refl _) W l o o' hl h h1 h2) (Below.refl _ _) (fun _ => rfl)
                (fun pre W => DomAt W h own2 (enterAllI T4 (spotOf l) pre 1) ∧ Mod (Mut own2) wc W) (fun _ _ _ => False) (ownFrom_dom hlim (fun pre => enterAllI T4 (spotOf l) pre 1) hB5.size) (fun _ _ _ _ _ hs _ _ => hs) ?h0 _ ?assign ?body ?done ?stop
              case h0 => exact ⟨HD2.out.below hB5, (Mod.of_below hB5).non_to⟩
              case assign =>
                intro l0 x W K hK
                gi_wp2
                exact hK
              case body =>
                intro l0 pre x W hI hlen
                obtain ⟨hDW, hMW⟩ := hI
                have hnm : ∀ b, own2 b = none → ¬ Mut own2 b := fun b ob e => e.1 ob
                have y0 : W.cell? ⟨w.heap.size, 0, none⟩ = some (.pointer (some ⟨h.d, 0, none⟩)) := cell_at (hMW.keep HB0.out (hnm _ o0)) rfl
                have y8 : W.cell? ⟨B8, 0, none⟩ = some (.string l.key) := cell_at (hMW.keep HB8.out (hnm _ o8)) rfl
                have y9 : W.cell? ⟨B8, 1, none⟩ = some (.string l.val) := cell_at (hMW.keep HB8.out (hnm _ o8)) rfl
                have hpl : pre.length ≤ 2048 := by have := HPL.out; simp [natI] at hlen; omega
                have hsmW := (small_enterAllI (at_ := spotOf l) (n := 1) (by omega) pre HF4.out HSM4.out (by omega)).mono (L := K + 2162721) (by omega)
                obtain ⟨ff1, _, _, _, ff5⟩ := enterAllI_fields (spotOf l) 1 pre T4
                have hia : ((enterAllI T4 (spotOf l) pre 1).areas (spotOf l)).isSome = true := by rw [ff5]; exact HIA4.out
                have hfl : (guestL (enterAllI T4 (spotOf l) pre 1) x).length ≤ 1048576 := by rw [guestL_congr ff1]; have := HF4.out x; omega
                have hDW' := Lib.hid hDW
                have hMW' := Lib.hid hMW
                clear hDW hMW ff1 ff5 hlen
                gi_wp2_with (refine ⟨trivial, ?_⟩; gi_at_call 60; refine CallsIn.inRound l0 (callsIn_wide.2 (enterPlus_d _ _ h own2 _ (spotOf l) x (K + 2162721) hDW'.out hia (by omega) hsmW hfl ?_)))
                intro w6 hD6 hM6
                gi_wp2
                have hge : ∀ j, wc.heap.size ≤ j → ¬ Mut own2 j := fun j hj e => e.1 (hlim j hj)
                exact ⟨⟨hM6.size, fun j o hj hk0 _ => hM6.keep hk0 (hge j (by have := hB5.size; omega))⟩, KeepB.of_mod hM6 (fun j h1 _ => hge j h1), by rw [enterAllI_snoc]; exact hD6, hMW'.out.seq hM6⟩
              case done =>
                rintro D xs W hD rfl ⟨hDW, hMW⟩ hK0
                have hDW' := Lib.hid hDW
                have hMW' := Lib.hid hMW
                have hK0' := Lib.hid hK0
                clear hDW hMW hK0
                go_wp2_with fail
                have hnm : ∀ b, own2 b = none → ¬ Mut own2 b := fun b ob e => e.1 ob
                have hs5 := hB5.size
                have hs2 := HM2.out.size
                refine HJJ.out _ _ ⟨k + 1, own2, D :: Ds, ?_⟩ ?_
                · repeat apply Exists.intro
                  refine ⟨rfl, by go_num, by omega, ?_, HE2.out, HM2.out.chain hMW'.out HE2.out, hMW'.out.keep HB0.out (hnm _ o0), o0, List.nodup_cons.2 ⟨fun hm => ?_, HDn.out⟩, fun E hE => ?_, fun E hE => ?_⟩
                  · rw [HT2.out, HJ1.out, ← enterAllI_nat]; exact hDW'.out
                  · have := (Array.getElem?_eq_some_iff.1 (HMK.out D hm).1).1
                    omega
                  · rcases List.mem_cons.1 hE with rfl | hE
                    · omega
                    · exact HDw.out E hE
                  · rcases List.mem_cons.1 hE with rfl | hE
                    · exact ⟨hK0'.out, hlim _ (by omega)⟩
                    · exact ⟨hMW'.out.keep (HMK.out E hE).1 (hnm _ (HMK.out E hE).2), (HMK.out E hE).2⟩
                · simp [intOf]; omega
              case stop =>
                intro D c pre W hD hSp hIx
                exact hIx.elim
    · obtain rfl : k = ls.length := by omega
      rw [List.take_length] at Dk
      have x0 : wr.cell? ⟨w.heap.size, 0, none⟩ = some (.pointer (some ⟨h.d, 0, none⟩)) := cell_at hbk rfl
      have x1 : wr.cell? ⟨h.d, 0, none⟩ = some (.map (some h.n)) := cell_at Dk.hd rfl
      obtain ⟨m, hm, hmf⟩ := Dk.fn
      obtain ⟨oU, hU⟩ := hm.update_any intK Tryz.underlying118 slot
      have ia : h.n < wr.heap.size := Dk.lt Dk.on_
      have hx : ∀ b, own1 b = none → ¬ b = h.n := fun b ob e => by have := Dk.on_; rw [← e, ob] at this; cases this
      have hxd : ¬ h.d = h.n := fun e => by have h1 := Dk.on_; rw [← e, Dk.od] at h1; cases h1
      have HK := Lib.hid (show ∀ w', Mod (fun j => j = h.n) wr w' → Mod (fun j => j = h.n) wr w' ∧ w'.cell? ⟨w.heap.size, 0, none⟩ = some (.pointer (some ⟨h.d, 0, none⟩)) ∧ w'.cell? ⟨h.d, 0, none⟩ = some (.map (some h.n)) from
        fun w' hw => ⟨hw, hw.cell' x0 (hx _ hok0), hw.cell' x1 hxd⟩)
      have hms := hMk.size
      have HU := Lib.hid hU
      have HDk := Lib.hid Dk
      have HEk := Lib.hid hEk
      have HMk := Lib.hid hMk
      have HDm := Lib.hid hDm
      have HDn := Lib.hid hDn
      have HDw := Lib.hid hDw
      have HMF := Lib.hid hmf
      have HLR := Lib.hid hlr
      clear hU Dk hEk hMk hDm hDn hDw hmf hlr hm hbk
      go_wp2_with fail
      go_region_held3 (fun w' => Mod (fun j => j = h.n) wr w' ∧ w'.cell? ⟨w.heap.size, 0, none⟩ = some (.pointer (some ⟨h.d, 0, none⟩)) ∧ w'.cell? ⟨h.d, 0, none⟩ = some (.map (some h.n)))
        (first
        | exact HK.out _ ((Mod.refl _ wr).drew)
        | exact HK.out _ yM
        | exact HK.out _ (Mod.put (S := fun j => j = h.n) (b := h.n) yM (fun _ => rfl) _))
        (first
        | (go_at_call 58; refine clone_k _ _ ok _ ls (fun j hj => by have := (HOK.out j hj).1; show j < wr.heap.size; omega) (SlK.move labOk HLR.out (fun _ _ => rfl)) (by omega) ?_; intro v2 w2 g1 hv2
           have yb := Below.of_drew g1
           have yM : Mod (fun j => j = h.n) wr w2 := (Mod.of_below yb).non_to
           have zu : ∀ v, (Instr.mapUpdate 118 (.map (some h.n)) (.int .i64 slot) v).run Tryz.prog w2 = _ := fun v => (HU.out w2 (yb.block h.n ia) v).1))
      all_goals (
        go_wp2_with fail
        have zP : Mod (fun j => j = h.n) wr (putObj w2 h.n (oU v2 w2)) := yM.put (b := h.n) (fun _ => rfl) _
        obtain ⟨nE, nD⟩ := HDk.out.newNode (slot := slot) yb hv2 HMF.out (HU.out w2 (yb.block h.n ia) v2).2 (putObj_mod _ _ _)
        show LeavesInM _ _ _ _ _ _ _ _ _
        refine leaves_marks Ds _ HDn.out (fun D hD => zP.keep (HDm.out D hD).1 (hx _ (HDm.out D hD).2)) (fun w' hw' => ?_)
        have hq := HR.out _ w' (nD.mod hw' (fun j hj => (nE j (Array.getElem?_eq_some_iff.1 (HDm.out j hj).1).1).trans (HDm.out j hj).2)) (HEk.out.trans nE hms)
          ((HMk.out.chain (zP.to_mut HDk.out.on_ (by simp)) HEk.out).trans hw' (fun i hi hm => by have := HDw.out i hm; omega))
        exact ⟨_, results_none rfl _ _ _, hq⟩)
end Go.Proofs.YtmenipaibjifiaaGreatDoor

namespace Go.Proofs.YtmenipaibjifiaaGreatDoor
open Go.RowKit Go.BigFrame Go.Shelf
attribute [local go_sem] Oper.semAt_some

theorem ownFrom_below {α : Type} (wc : World) : OwnFrom wc.heap.size (fun (_ : List α) W => Below wc.heap.size wc W) := by
  rintro s W W' row h hg hr
  exact h.grown hg h.size (fun j e => (hr j e).1)

set_option maxRecDepth 100000 in
set_option maxHeartbeats 40000000 in
theorem buildNil_k (R : Ending → World → Prop) (w : World) (hR : ∀ h own w', Below w.heap.size w w' → DomAt w' h own St.empty → (∀ k, k < w.heap.size → own k = none) → w.heap.size ≤ h.d → R (.returned (.pointer (some ⟨h.d, 0, none⟩))) w') :
    Calls Tryz.prog 24 #[.pointer none] w R := by
  have HR := Lib.hid hR
  clear hR
  refine callsIn_wide.1 (callsIn_of_wp_marks (n := 6) Tryz.func24 rfl trivial ?_ rfl)
  refine wpIn_wide.2 ?_
  simp only [Tryz.ntmps24, List.size_toArray, List.length_cons, List.length_nil, Nat.reduceAdd, Nat.reduceSub, Array.replicate_succ, Array.replicate_zero, List.push_toArray, List.append_toArray, List.nil_append, List.cons_append]
  let hbp := bodyPost Tryz.prog Tryz.f24 R
  go_wp2_with fail
  refine dnew_k _ _ ?_
  intro h own w1 g1 D1 hown hd
  have HG1 := Lib.hid g1
  have HD1 := Lib.hid D1
  have HO1 := Lib.hid hown
  have hb1 := g1.block w.heap.size (by simp)
  rw [heap_alloc_new] at hb1
  have x1 : w1.cell? ⟨w.heap.size, 0, none⟩ = some (.pointer none) := cell_at hb1 rfl
  have hs1 := g1.size
  simp at hs1
  have hg2 : (w1.alloc (.cells #[.pointer (some ⟨h.d, 0, none⟩)] 24)).cell? ⟨w.heap.size, 0, none⟩ = some (.pointer none) := cell_old x1 _
  clear g1 D1 hown hb1
  go_wp2_with fail
  refine slotsNilC_k _ _ ?_
  go_wp2_with fail
  have hg3 : (w1.alloc (.cells #[.pointer (some ⟨h.d, 0, none⟩)] 24)).cell? ⟨w1.heap.size, 0, none⟩ = some (.pointer (some ⟨h.d, 0, none⟩)) := cell_new rfl
  have HWc := Lib.hid (show Below w.heap.size w (w1.alloc (.cells #[.pointer (some ⟨h.d, 0, none⟩)] 24)) from ((Below.alloc (Below.refl _ _) (Nat.le_refl _) _).trans (HG1.out.mono (by simp))).alloc (by omega) _)
  have HDc := Lib.hid (HD1.out.alloc (.cells #[.pointer (some ⟨h.d, 0, none⟩)] 24))
  generalize hW : w1.alloc (.cells #[.pointer (some ⟨h.d, 0, none⟩)] 24) = wc at *
  clear hW
  refine (wpIn_wide (n := 6)).1 ?_
  refine' wpIn_rangeFunc_ownG (α := Int × ByteArray) (F := Fence.wide) (n := 6) rfl (by decide) (gf := 131) (lb := #[]) rfl trivial (enters_of Tryz.func131 (by kernel_rfl) rfl)
    (slots1_stops Fence.wide 5 trivial rfl wc) (fun {A B C} h k => trivial) (fun W l o o' hl h h1 h2 => trivial) (Below.refl _ _) (fun _ => rfl)
    (fun _ W => Below wc.heap.size wc W) (fun _ _ _ => False) (ownFrom_below wc) (fun _ _ _ _ _ hs _ _ => hs) ?h0 _ ?assign ?body ?done ?stop
  case h0 => exact Below.refl _ _
  case assign =>
    intro l0 x W K hK
    gi_wp2
    exact hK
  case body =>
    intro l0 pre x W hI hlen
    exact absurd hlen (Nat.not_lt_zero _)
  case stop =>
    intro D c pre W hD hSp hIx
    exact hIx.elim
  case done =>
    rintro D1 xs W1 hD1 - hW1 hK1
    have z1 : W1.cell? ⟨w.heap.size, 0, none⟩ = some (.pointer none) := (Mod.of_below hW1).cell' hg2 (fun h => h)
    have z2 : W1.cell? ⟨w1.heap.size, 0, none⟩ = some (.pointer (some ⟨h.d, 0, none⟩)) := (Mod.of_below hW1).cell' hg3 (fun h => h)
    have HW1 := Lib.hid hW1
    have HK1 := Lib.hid hK1
    clear hW1 hK1
    go_wp2_with fail
    refine podSlotsNilC_k _ _ ?_
    go_wp2_with fail
    refine (wpIn_wide (n := 6)).1 ?_
    refine' wpIn_rangeFunc_ownG (α := Int × ByteArray) (F := Fence.wide) (n := 6) rfl (by decide) (gf := 133) (lb := #[]) rfl trivial (enters_of Tryz.func133 (by kernel_rfl) rfl)
      (podSlots1_stops Fence.wide 5 trivial rfl W1) (fun {A B C} h k => trivial) (fun W l o o' hl h h1 h2 => trivial) (Below.refl _ _) (fun _ => rfl)
      (fun _ W => Below W1.heap.size W1 W) (fun _ _ _ => False) (ownFrom_below W1) (fun _ _ _ _ _ hs _ _ => hs) ?h0 _ ?assign ?body ?done ?stop
    case h0 => exact Below.refl _ _
    case assign =>
      intro l0 x W K hK
      gi_wp2
      exact hK
    case body =>
      intro l0 pre x W hI hlen
      exact absurd hlen (Nat.not_lt_zero _)
    case stop =>
      intro D c pre W hD hSp hIx
      exact hIx.elim
    case done =>
      rintro D2 xs2 W2 hD2 - hW2 hK2
      have z3 : W2.cell? ⟨w1.heap.size, 0, none⟩ = some (.pointer (some ⟨h.d, 0, none⟩)) := (Mod.of_below hW2).cell' z2 (fun h => h)
      have HW2 := Lib.hid hW2
      have HK2 := Lib.hid hK2
      clear hW2 hK2
      go_wp2_with fail
      show LeavesInM _ _ _ _ _ _ _ _ _
      have e1 := (Array.getElem?_eq_some_iff.1 HK1.out).1
      have e2 : W2.heap[D1]? = some (.deferred (some [])) := (HW2.out.block D1 e1).trans HK1.out
      have s1 := HWc.out.size
      have s2 := HW1.out.size
      refine leaves_marks [D2, D1] _ (by simp; omega) (fun D hD => by
        simp at hD
        rcases hD with rfl | rfl
        · exact HK2.out
        · exact e2) (fun w' hw' => ?_)
      have hb9 : Below wc.heap.size wc w' := (HW1.out.trans (HW2.out.mono HW1.out.size)).trans ((hw'.below (B := wc.heap.size) (by have := HW2.out.size; omega) (fun j hj => by
        simp at hj
        rcases hj with rfl | rfl <;> omega)))
      have hq := HR.out h own w' (HWc.out.trans (hb9.mono HWc.out.size)) (HDc.out.below hb9) (fun j hj => HO1.out j (by simp; omega)) (by simp at hd; omega)
      exact ⟨_, results_tmp (t := 2) rfl _ _ _, hq⟩
end Go.Proofs.YtmenipaibjifiaaGreatDoor
