/-
domain: quit.
domain: Apply, a node goes.
-/
import Derived.Test.YtmenipaibjifiaaGreatDoorR37
import Derived.Test.YtmenipaibjifiaaGreatDoorR39
import Derived.Test.YtmenipaibjifiaaGreatDoorR27
set_option linter.unusedVariables false
set_option linter.unusedSimpArgs false
namespace Go.Proofs.YtmenipaibjifiaaGreatDoor
open Go.RowKit Go.BigFrame Go.Shelf
attribute [local go_sem] Oper.semAt_some

/-- Where quit stands with a label: the state T; its own boxes. -/
def QS (w : World) (own : Own') (h : Hdr) (l : Lab) (Ds : List Nat) (B0 B5 B6 : Nat) (T : St) (wr : World) : Prop :=
  DomAt wr h own T ∧ Mod (Mut own) w wr ∧ wr.heap[B0]? = some (.cells #[.pointer (some ⟨h.d, 0, none⟩)] 24) ∧ own B0 = none ∧
    wr.heap[B5]? = some (.cells #[.string l.key, .string l.val] 108) ∧ own B5 = none ∧ wr.heap[B6]? = some (.cells #[.string l.key, .string l.val] 143) ∧ own B6 = none ∧ ∀ D ∈ Ds, wr.heap[D]? = some (.deferred (some [])) ∧ own D = none
theorem QS.turn {w : World} {own : Own'} {h : Hdr} {l : Lab} {Ds : List Nat} {B0 B5 B6 : Nat} {T T' : St} {wr wr' : World} (J : QS w own h l Ds B0 B5 B6 T wr) {b : Nat} {t : Owner} (hb : own b = some t) (ht : t ≠ .imm) (hM : Mod (fun j => j = b) wr wr') (hD : DomAt wr' h own T') : QS w own h l Ds B0 B5 B6 T' wr' := by
  obtain ⟨_, hm, h0, o0, h5, o5, h6, o6, hmk⟩ := J
  have hx : ∀ k, own k = none → ¬ k = b := fun k ok e => by rw [← e, ok] at hb; cases hb
  exact ⟨hD, hm.seq (hM.to_mut hb ht), hM.keep h0 (hx _ o0), o0, hM.keep h5 (hx _ o5), o5, hM.keep h6 (hx _ o6), o6, fun D hD => ⟨hM.keep (hmk D hD).1 (hx _ (hmk D hD).2), (hmk D hD).2⟩⟩
theorem QS.below {w : World} {own : Own'} {h : Hdr} {l : Lab} {Ds : List Nat} {B0 B5 B6 : Nat} {T : St} {wr wr' : World} (J : QS w own h l Ds B0 B5 B6 T wr) (hb : Below wr.heap.size wr wr') : QS w own h l Ds B0 B5 B6 T wr' := by
  obtain ⟨hD, hm, h0, o0, h5, o5, h6, o6, hmk⟩ := J
  have hM := Mod.of_below hb
  have hx : ∀ k : Nat, ¬ Non k := fun _ h => h
  exact ⟨hD.below hb, hm.seq hM.non_to, hM.keep h0 (hx _), o0, hM.keep h5 (hx _), o5, hM.keep h6 (hx _), o6, fun D hD => ⟨hM.keep (hmk D hD).1 (hx _), (hmk D hD).2⟩⟩
theorem map_len_at {P : Program} {κ : Type} [DecidableEq κ] {enc : κ → Value} {w : World} {b : Nat} {m : List (κ × Value)} (h : MapAt enc w b m) {t kt e ty : TypeId} (ht : P.underlying t = some (.map kt e)) :
    (Builtin.len_ #[t] ty #[.map (some b)]).run P w = .ok (.int .i64 (m.length : Int)) w := by
  obtain ⟨es, c, hb, hm, _⟩ := h
  rw [map_len0 hb ht]
  have : es.size = m.length := by have := congrArg List.length hm; simpa using this
  rw [this]
theorem aget_nil_iff {κ α : Type} [DecidableEq κ] {m : List (κ × Value)} {rel : κ → Value → α → Prop} {f : κ → Option α} (h : ∀ k, OptR (rel k) (aget m k) (f k)) : m.length = 0 ↔ ∀ k, f k = none := by
  constructor
  · intro e k
    obtain rfl := List.eq_nil_of_length_eq_zero e
    have := h k
    cases e2 : f k with
    | none => rfl
    | some x => rw [e2] at this; exact this.elim
  · intro e
    cases m with
    | nil => rfl
    | cons p r =>
      obtain ⟨k, v⟩ := p
      have h1 := h k
      rw [e k] at h1
      have : aget ((k, v) :: r) k = some v := by simp [aget]
      rw [this] at h1
      exact h1.elim
theorem innerG_at {S : St} {k : ByteArray} {g : ByteArray → Option Int} (h : S.values k = some g) : innerG S k = g := by unfold innerG; rw [h]
theorem DomAt.delArea {w w' : World} {h : Hdr} {own : Own'} {S : St} (D : DomAt w h own S) (hM : Mod (fun j => j = h.a) w w') {m : List (Spot × Value)} (hn : (akeys m).Nodup) (hf : ∀ k, OptR (areaR own w k) (aget m k) (S.areas k)) {k : Spot} (hz : MapAt spotV w' h.a (adel m k)) : DomAt w' h own { S with areas := upd S.areas k none } :=
  have ne : ∀ {u : Owner}, Owner.areas ≠ u → ∀ j, j = h.a → own j ≠ some u := fun hu => one_ne D.oa hu
  D.setAreas (.of hM) (fun k hk => D.lim k (Nat.le_trans hM.size hk)) (FMap.del hn hf hz (fun _ _ _ hr => areaR_step (.of hM) (ne (by simp)) (ne (by simp)) (ne (by simp)) hr))
theorem DomAt.delKey {w w' : World} {h : Hdr} {own : Own'} {S : St} (D : DomAt w h own S) (hM : Mod (fun j => j = h.v) w w') {m : List (ByteArray × Value)} (hn : (akeys m).Nodup) (hf : ∀ k, OptR (valR own w k) (aget m k) (S.values k)) {k : ByteArray} (hz : MapAt Value.string w' h.v (adel m k)) : DomAt w' h own { S with values := upd S.values k none } :=
  have ne : ∀ {u : Owner}, Owner.values ≠ u → ∀ j, j = h.v → own j ≠ some u := fun hu => one_ne D.ov hu
  D.setValues (.of hM) (fun k hk => D.lim k (Nat.le_trans hM.size hk)) (FMap.del hn hf hz (fun _ _ _ hr => valR_step (.of hM) (ne (by simp)) hr))
theorem DomAt.delNode {w w' : World} {h : Hdr} {own : Own'} {S : St} (D : DomAt w h own S) (hM : Mod (fun j => j = h.n) w w') {m : List (Int × Value)} (hn : (akeys m).Nodup) (hf : ∀ k, OptR (nodeR own w k) (aget m k) (S.nodes k)) {k : Int} (hz : MapAt (Value.int .i64) w' h.n (adel m k)) : DomAt w' h own { S with nodes := upd S.nodes k none } :=
  have ne : ∀ {u : Owner}, Owner.nodes ≠ u → ∀ j, j = h.n → own j ≠ some u := fun hu => one_ne D.on_ hu
  D.setNodes (.of hM) (fun k hk => D.lim k (Nat.le_trans hM.size hk)) (FMap.del hn hf hz (fun _ _ _ hr => nodeR_step (.of hM) (ne (by simp)) hr))

set_option maxRecDepth 100000 in
set_option maxHeartbeats 40000000 in
theorem quit_d (R : Ending → World → Prop) (w : World) (h : Hdr) (own : Own') (S : St) (slot : Int) (ls : List Lab) (D : DomAt w h own S) (I : Inv S) (hfew : Few S) (hnl : S.nodes slot = some ls) (hll : ls.length ≤ 1048576)
    (hR : ∀ w', DomAt w' h own (quitS S slot ls) → Mod (Mut own) w w' → R (.returned (.tuple #[])) w') :
    Calls Tryz.prog 57 #[.pointer (some ⟨h.d, 0, none⟩), .int .i64 slot] w R := by
  have HR := Lib.hid hR
  have HI := Lib.hid I
  have HNL := Lib.hid hnl
  obtain ⟨ws, hon⟩ := Option.isSome_iff_exists.1 (show (S.on slot).isSome = true by rw [I.ons, hnl]; rfl)
  have HON := Lib.hid hon
  have hol : onL S slot = mems 2048 ws := by unfold onL; rw [hon]
  have HOL := Lib.hid hol
  have hpl : (onL S slot).length ≤ 2048 := by rw [hol]; exact mems_length_le _ _
  have HPL := Lib.hid hpl
  have HFEW := Lib.hid hfew
  obtain ⟨m0, hm0, hf0⟩ := D.fn
  have hat0 := hf0 slot
  rw [hnl] at hat0
  obtain ⟨vl, hvl, hlab⟩ := hat0.some_l
  have hlab2 : Labs w (fun b => own b = some .imm) vl ls := hlab
  obtain ⟨Al, cl, e, hlc, _⟩ := hlab2.form
  subst e
  have HL := Lib.hid hlab2
  have HD := Lib.hid D
  have hown0 : own w.heap.size = none := D.lim _ (Nat.le_refl _)
  have x0 : (w.alloc (.cells #[.pointer (some ⟨h.d, 0, none⟩)] 24)).cell? ⟨w.heap.size, 0, none⟩ = some (.pointer (some ⟨h.d, 0, none⟩)) := cell_new rfl
  have x1 : (w.alloc (.cells #[.pointer (some ⟨h.d, 0, none⟩)] 24)).cell? ⟨h.d, 0, none⟩ = some (.map (some h.n)) := cell_old (cell_at D.hd rfl) _
  have l0 := (hm0.mod ((Mod.refl Non w).alloc (.cells #[.pointer (some ⟨h.d, 0, none⟩)] 24)) (fun h => h)).lookup intK Tryz.underlying118 (z := .slice none 0 0) (by kernel_rfl) slot false
  rw [hvl] at l0
  simp only [Bool.false_eq_true, if_false, Option.getD_some] at l0
  clear hR I hnl hon hol hpl hfew hat0 hlab hlab2 hf0 hm0 D hvl
  refine callsIn_wide.1 (callsIn_of_wp_marks (n := 6) Tryz.func57 rfl trivial ?_ rfl)
  refine wpIn_wide.2 ?_
  simp only [Tryz.ntmps57, List.size_toArray, List.length_cons, List.length_nil, Nat.reduceAdd, Nat.reduceSub, Array.replicate_succ, Array.replicate_zero, List.push_toArray, List.append_toArray, List.nil_append, List.cons_append]
  let hbp := bodyPost Tryz.prog Tryz.f57 R
  go_wp2_with fail
  refine wp_loopJ (fun a wr => ∃ (k : Nat) (Ds : List Nat) (u3 u4 u5 u6 u7 u15 u16 u17 u18 u19 u20 u21 u22 u23 u24 u25 u26 u27 u28 u29 u30 u31 u32 u33 u34 u35 u36 u37 u38 u39 u40 u41 u42 u43 u44 u45 u46 u47 u48 u49 u50 u51 u52 u53 u54 u55 u56 u57 u58 u59 u60 u61 u62 u63 u64 u65 u66 u67 u68 u69 u70 u71 u72 u73 u74 u75 u76 u77 u78 u79 u80 u81 u82 u83 u84 u85 u86 u87 u88 u89 u90 u91 u92 u93 u94 u95 u96 u97 u98 u99 u100 u101 : Value), a = { tmps := #[.pointer (some ⟨h.d, 0, none⟩), .int .i64 slot, .pointer (some ⟨w.heap.size, 0, none⟩), u3, u4, u5, u6, u7, .pointer (some ⟨h.d, 0, none⟩), .pointer (some ⟨h.d, 0, none⟩), .pointer (some ⟨h.d, 0, none⟩), .map (some h.n), .int .i64 slot, .slice Al ls.length cl, .int .i64 ls.length, u15, u16, u17, u18, u19, u20, u21, u22, u23, u24, u25, u26, u27, u28, u29, u30, u31, u32, u33, u34, u35, u36, u37, u38, u39, u40, u41, u42, u43, u44, u45, u46, u47, u48, u49, u50, u51, u52, u53, u54, u55, u56, u57, u58, u59, u60, u61, u62, u63, u64, u65, u66, u67, u68, u69, u70, u71, u72, u73, u74, u75, u76, u77, u78, u79, u80, u81, u82, u83, u84, u85, u86, u87, u88, u89, u90, u91, u92, u93, u94, u95, u96, u97, u98, u99, u100, u101], defers := Ds.map mkD } ∧ u15 = .int .i64 k ∧ k ≤ ls.length ∧ DomAt wr h own ((ls.take k).foldl (quitOne slot (onL S slot)) S) ∧ Mod (Mut own) w wr ∧
    wr.heap[w.heap.size]? = some (.cells #[.pointer (some ⟨h.d, 0, none⟩)] 24) ∧ Ds.Nodup ∧ (∀ D ∈ Ds, w.heap.size ≤ D) ∧ ∀ D ∈ Ds, wr.heap[D]? = some (.deferred (some [])) ∧ own D = none) (fun a _ => ls.length - (intOf (a.tmps.getD 15 undef)).toNat) ?atStart ?round
  case atStart => exact ⟨0, [], _, _, _, _, _, _, _, _, _, _, _, _, _, _, _, _, _, _, _, _, _, _, _, _, _, _, _, _, _, _, _, _, _, _, _, _, _, _, _, _, _, _, _, _, _, _, _, _, _, _, _, _, _, _, _, _, _, _, _, _, _, _, _, _, _, _, _, _, _, _, _, _, _, _, _, _, _, _, _, _, _, _, _, _, _, _, _, _, _, _, _, _, rfl, rfl, Nat.zero_le _, HD.out.alloc _, ((Mod.refl Non w).alloc _).non_to, heap_alloc_new _ _, List.nodup_nil, fun _ h => by simp at h, fun _ h => by simp at h⟩
  case round =>
    intro a wr hinv J hJJ
    obtain ⟨k, Ds, hinv⟩ := hinv
    obtain ⟨u3, hinv⟩ := hinv
    obtain ⟨u4, hinv⟩ := hinv
    obtain ⟨u5, hinv⟩ := hinv
    obtain ⟨u6, hinv⟩ := hinv
    obtain ⟨u7, hinv⟩ := hinv
    obtain ⟨u15, hinv⟩ := hinv
    obtain ⟨u16, hinv⟩ := hinv
    obtain ⟨u17, hinv⟩ := hinv
    obtain ⟨u18, hinv⟩ := hinv
    obtain ⟨u19, hinv⟩ := hinv
    obtain ⟨u20, hinv⟩ := hinv
    obtain ⟨u21, hinv⟩ := hinv
    obtain ⟨u22, hinv⟩ := hinv
    obtain ⟨u23, hinv⟩ := hinv
    obtain ⟨u24, hinv⟩ := hinv
    obtain ⟨u25, hinv⟩ := hinv
    obtain ⟨u26, hinv⟩ := hinv
    obtain ⟨u27, hinv⟩ := hinv
    obtain ⟨u28, hinv⟩ := hinv
    obtain ⟨u29, hinv⟩ := hinv
    obtain ⟨u30, hinv⟩ := hinv
    obtain ⟨u31, hinv⟩ := hinv
    obtain ⟨u32, hinv⟩ := hinv
    obtain ⟨u33, hinv⟩ := hinv
    obtain ⟨u34, hinv⟩ := hinv
    obtain ⟨u35, hinv⟩ := hinv
    obtain ⟨u36, hinv⟩ := hinv
    obtain ⟨u37, hinv⟩ := hinv
    obtain ⟨u38, hinv⟩ := hinv
    obtain ⟨u39, hinv⟩ := hinv
    obtain ⟨u40, hinv⟩ := hinv
    obtain ⟨u41, hinv⟩ := hinv
    obtain ⟨u42, hinv⟩ := hinv
    obtain ⟨u43, hinv⟩ := hinv
    obtain ⟨u44, hinv⟩ := hinv
    obtain ⟨u45, hinv⟩ := hinv
    obtain ⟨u46, hinv⟩ := hinv
    obtain ⟨u47, hinv⟩ := hinv
    obtain ⟨u48, hinv⟩ := hinv
    obtain ⟨u49, hinv⟩ := hinv
    obtain ⟨u50, hinv⟩ := hinv
    obtain ⟨u51, hinv⟩ := hinv
    obtain ⟨u52, hinv⟩ := hinv
    obtain ⟨u53, hinv⟩ := hinv
    obtain ⟨u54, hinv⟩ := hinv
    obtain ⟨u55, hinv⟩ := hinv
    obtain ⟨u56, hinv⟩ := hinv
    obtain ⟨u57, hinv⟩ := hinv
    obtain ⟨u58, hinv⟩ := hinv
    obtain ⟨u59, hinv⟩ := hinv
    obtain ⟨u60, hinv⟩ := hinv
    obtain ⟨u61, hinv⟩ := hinv
    obtain ⟨u62, hinv⟩ := hinv
    obtain ⟨u63, hinv⟩ := hinv
    obtain ⟨u64, hinv⟩ := hinv
    obtain ⟨u65, hinv⟩ := hinv
    obtain ⟨u66, hinv⟩ := hinv
    obtain ⟨u67, hinv⟩ := hinv
    obtain ⟨u68, hinv⟩ := hinv
    obtain ⟨u69, hinv⟩ := hinv
    obtain ⟨u70, hinv⟩ := hinv
    obtain ⟨u71, hinv⟩ := hinv
    obtain ⟨u72, hinv⟩ := hinv
    obtain ⟨u73, hinv⟩ := hinv
    obtain ⟨u74, hinv⟩ := hinv
    obtain ⟨u75, hinv⟩ := hinv
    obtain ⟨u76, hinv⟩ := hinv
    obtain ⟨u77, hinv⟩ := hinv
    obtain ⟨u78, hinv⟩ := hinv
    obtain ⟨u79, hinv⟩ := hinv
    obtain ⟨u80, hinv⟩ := hinv
    obtain ⟨u81, hinv⟩ := hinv
    obtain ⟨u82, hinv⟩ := hinv
    obtain ⟨u83, hinv⟩ := hinv
    obtain ⟨u84, hinv⟩ := hinv
    obtain ⟨u85, hinv⟩ := hinv
    obtain ⟨u86, hinv⟩ := hinv
    obtain ⟨u87, hinv⟩ := hinv
    obtain ⟨u88, hinv⟩ := hinv
    obtain ⟨u89, hinv⟩ := hinv
    obtain ⟨u90, hinv⟩ := hinv
    obtain ⟨u91, hinv⟩ := hinv
    obtain ⟨u92, hinv⟩ := hinv
    obtain ⟨u93, hinv⟩ := hinv
    obtain ⟨u94, hinv⟩ := hinv
    obtain ⟨u95, hinv⟩ := hinv
    obtain ⟨u96, hinv⟩ := hinv
    obtain ⟨u97, hinv⟩ := hinv
    obtain ⟨u98, hinv⟩ := hinv
    obtain ⟨u99, hinv⟩ := hinv
    obtain ⟨u100, hinv⟩ := hinv
    obtain ⟨u101, hinv⟩ := hinv
    obtain ⟨ha, rfl, hk, Dk, hMk, hbk, hDn, hDw, hDm⟩ := hinv
    subst ha
    try dsimp only
    have HJJ := Lib.hid hJJ
    clear hJJ
    have hlr : Labs wr (fun b => own b = some .imm) (.slice Al ls.length cl) ls := labs_step (.of hMk) (fun j hj => hj.2) HL.out
    by_cases hkl : k < ls.length
    · obtain ⟨l, hl⟩ : ∃ l, ls[k]'hkl = l := ⟨_, rfl⟩
      obtain ⟨T, hT⟩ : ∃ T, (ls.take k).foldl (quitOne slot (onL S slot)) S = T := ⟨_, rfl⟩
      have hT2 : (ls.take (k + 1)).foldl (quitOne slot (onL S slot)) S = quitOne slot (onL S slot) T l := by
        rw [List.take_succ_eq_append_getElem hkl, List.foldl_append, hT, hl]; rfl
      have hsplit : ls = ls.take k ++ l :: ls.drop (k + 1) := by
        rw [← hl, ← List.drop_eq_getElem_cons hkl, List.take_append_drop]
      have hstand := HI.out.quitAt (slot := slot) (pre := ls.take k) (r := ls.drop (k + 1)) (l := l) (by rw [← hsplit]; exact HNL.out)
      rw [hT] at hstand
      obtain ⟨hiaT, ⟨gT, qT, hgT, hqT, hq1⟩, hsmT⟩ := hstand
      have hfewT : Few T := HFEW.out.of (by rw [← hT]; exact (quitFold_fields _ _ _ _).1)
      have honT : T.on slot = some ws := by rw [← hT, (quitFold_fields _ _ _ _).2.2]; exact HON.out
      rw [hT] at Dk
      obtain ⟨b, off, c', he, _, _, hbk2, hbl, hce⟩ := hlr.addr (by omega)
      simp only [Value.slice.injEq] at he
      obtain ⟨rfl, -, rfl⟩ := he
      obtain ⟨c0, c1⟩ := lab_cells hce k hkl
      rw [hl] at c0 c1
      have hn5 : own wr.heap.size = none := Dk.lim _ (Nat.le_refl _)
      have hn6 : own (wr.heap.size + 1) = none := Dk.lim _ (by omega)
      have hJ : QS w own h l Ds w.heap.size wr.heap.size (wr.heap.size + 1) T ((wr.alloc (.cells #[.string l.key, .string l.val] 108)).alloc (.cells #[.string l.key, .string l.val] 143)) := by
        refine ⟨(Dk.alloc _).alloc _, (hMk.alloc _).alloc _, heap_keep (heap_keep hbk _) _, hown0, heap_keep (heap_alloc_new _ _) _, hn5, ?_, hn6, fun D hD => ⟨heap_keep (heap_keep (hDm D hD).1 _) _, (hDm D hD).2⟩⟩
        have := heap_alloc_new (wr.alloc (.cells #[.string l.key, .string l.val] 108)) (.cells #[.string l.key, .string l.val] 143)
        rwa [World.size_alloc] at this
      have HT2 := Lib.hid hT2
      have HIA := Lib.hid hiaT
      have HG := Lib.hid hgT
      have HQ := Lib.hid hqT
      have HQ1 := Lib.hid hq1
      have HSM := Lib.hid hsmT
      have HFT := Lib.hid hfewT
      have HONT := Lib.hid honT
      have HJ := Lib.hid hJ
      have HDn := Lib.hid hDn
      have HDw := Lib.hid hDw
      clear hce hlr hT hT2 hl hsplit hiaT hgT hqT hq1 hsmT hfewT honT hJ Dk hMk hbk hDn hDw hDm
      go_upto_region 5 with fail
      generalize hW2 : (wr.alloc (.cells #[.string l.key, .string l.val] 108)).alloc (.cells #[.string l.key, .string l.val] 143) = wc at *
      obtain ⟨B5, hB5⟩ : ∃ B5, wr.heap.size = B5 := ⟨_, rfl⟩
      obtain ⟨B6, hB6⟩ : ∃ B6, B5 + 1 = B6 := ⟨_, rfl⟩
      rw [hB5] at HJ
      rw [hB6] at HJ
      simp only [hB5, hB6]
      have hJc := HJ.out
      obtain ⟨D2, hM2, b0, o0, b5, o5, b6, o6, hmk⟩ := hJc
      have x0 : wc.cell? ⟨w.heap.size, 0, none⟩ = some (.pointer (some ⟨h.d, 0, none⟩)) := cell_at b0 rfl
      have x2 : wc.cell? ⟨h.d, 2, none⟩ = some (.map (some h.o)) := cell_at D2.hd rfl
      obtain ⟨m, hm, hmf⟩ := D2.fo
      have hat := hmf slot
      rw [HONT.out] at hat
      obtain ⟨v, hv, sO, bO, rfl, hSO, oO, iO⟩ := hat.some_l
      have l1 := hm.lookup intK Tryz.underlying120 (z := .pointer none) (by kernel_rfl) slot false
      rw [hv] at l1
      simp only [Bool.false_eq_true, if_false, Option.getD_some] at l1
      have HD2 := Lib.hid D2
      have HM2 := Lib.hid hM2
      have HB0 := Lib.hid b0
      have HB5 := Lib.hid b5
      have HB6 := Lib.hid b6
      have HMK := Lib.hid hmk
      have HSO := Lib.hid hSO
      have hlt := hSO.lt
      clear D2 hM2 b0 b5 b6 hmk hat hmf hm hv hSO hW2 hB5 hB6 hn5 hn6 c0 c1
      go_wp2_with fail
      refine all_k _ _ (fun k => k = sO ∨ k = bO) _ 2048 ws (fun k hk => by rcases hk with rfl | rfl <;> omega) (.inr ⟨sO, bO, rfl, HSO.out, .inl rfl, .inr rfl⟩) (by decide) ?_
      intro Bs sv w5 hBw5 hbs1 hbs2 hcs hsl
      rw [← HOL.out] at hsl
      go_wp2_with fail
      refine (wpIn_wide (n := 6)).1 ?_
      have hlim : ∀ k, wc.heap.size ≤ k → own k = none := HD2.out.lim
      refine' wpIn_rangeFunc_ownG (F := Fence.wide) (n := 6) rfl (by decide) (gf := 212) (lb := #[.pointer (some ⟨Bs, 0, none⟩)]) rfl trivial (enters_of Tryz.func212 (by kernel_rfl) rfl)
        (all_stops Fence.wide 5 trivial rfl (by decide) wc.heap.size Bs sv (natI (onL S slot)) (by have := HPL.out; simp [natI]; omega) w5 ⟨hbs1, hbs2⟩ hcs hsl) (fun {A B C} h k => KeepB.trans h k) (fun W l o o' hl h h1 h2 => keepB_b (Nat.le_refl _) W l o o' hl h h1 h2) (Below.refl _ _) (fun _ => rfl)
        (fun pre W => DomAt W h own (enterAllI T (spotOf l) pre (-1)) ∧ Mod (Mut own) wc W) (fun _ _ _ => False) (ownFrom_dom hlim (fun pre => enterAllI T (spotOf l) pre (-1)) hBw5.size) (fun _ _ _ _ _ hs _ _ => hs) ?h0 _ ?assign ?body ?done ?stop
      case h0 => exact ⟨HD2.out.below hBw5, (Mod.of_below hBw5).non_to⟩
      case assign =>
        intro l0 x W K hK
        gi_wp2
        exact hK
      case stop =>
        intro D c pre W hD hSp hIx
        exact hIx.elim
      case body =>
        intro l0 pre x W hI hlen
        obtain ⟨hDW, hMW⟩ := hI
        have hnm : ∀ b, own b = none → ¬ Mut own b := fun b ob e => e.1 ob
        have y0 : W.cell? ⟨w.heap.size, 0, none⟩ = some (.pointer (some ⟨h.d, 0, none⟩)) := cell_at (hMW.keep HB0.out (hnm _ o0)) rfl
        have y8 : W.cell? ⟨B6, 0, none⟩ = some (.string l.key) := cell_at (hMW.keep HB6.out (hnm _ o6)) rfl
        have y9 : W.cell? ⟨B6, 1, none⟩ = some (.string l.val) := cell_at (hMW.keep HB6.out (hnm _ o6)) rfl
        have hpl : pre.length ≤ 2048 := by have := HPL.out; simp [natI] at hlen; omega
        have hsmW := (small_enterAllI (at_ := spotOf l) (n := -1) (by omega) pre HFT.out HSM.out (by omega)).mono (L := 131072) (by omega)
        obtain ⟨ff1, _, _, _, ff5⟩ := enterAllI_fields (spotOf l) (-1) pre T
        have hia : ((enterAllI T (spotOf l) pre (-1)).areas (spotOf l)).isSome = true := by rw [ff5]; exact HIA.out
        have hfl : (guestL (enterAllI T (spotOf l) pre (-1)) x).length ≤ 1048576 := by rw [guestL_congr ff1]; have := HFT.out x; omega
        have hDW' := Lib.hid hDW
        have hMW' := Lib.hid hMW
        clear hDW hMW ff1 ff5 hlen
        gi_wp2_with (refine ⟨trivial, ?_⟩; gi_at_call 60; refine CallsIn.inRound l0 (callsIn_wide.2 (enterMinus_d _ _ h own _ (spotOf l) x 131072 hDW'.out hia (by omega) hsmW hfl ?_)))
        intro w6 hD6 hM6
        gi_wp2
        have hge : ∀ j, wc.heap.size ≤ j → ¬ Mut own j := fun j hj e => e.1 (hlim j hj)
        exact ⟨⟨hM6.size, fun j o hj hk0 _ => hM6.keep hk0 (hge j (by have := hBw5.size; omega))⟩, KeepB.of_mod hM6 (fun j h1 _ => hge j h1), by rw [enterAllI_snoc]; exact hD6, hMW'.out.seq hM6⟩
      case done =>
        rintro D xs W hD rfl ⟨hDW, hMW⟩ hK0
        have hs5 := hBw5.size
        have hnm : ∀ b, own b = none → ¬ Mut own b := fun b ob e => e.1 ob
        obtain ⟨T1, hT1⟩ : ∃ T1, enterAll T (spotOf l) (onL S slot) (-1) = T1 := ⟨_, rfl⟩
        have hDW2 : DomAt W h own T1 := by rw [← hT1, ← enterAllI_nat]; exact hDW
        have hJ1 : QS w own h l (D :: Ds) w.heap.size B5 B6 T1 W := ⟨hDW2, HM2.out.seq hMW, hMW.keep HB0.out (hnm _ o0), o0, hMW.keep HB5.out (hnm _ o5), o5, hMW.keep HB6.out (hnm _ o6), o6, fun E hE => by
          rcases List.mem_cons.1 hE with rfl | hE
          · exact ⟨hK0, hlim _ (by omega)⟩
          · exact ⟨hMW.keep (HMK.out E hE).1 (hnm _ (HMK.out E hE).2), (HMK.out E hE).2⟩⟩
        have hDnd : (D :: Ds).Nodup := List.nodup_cons.2 ⟨fun hm => by
          have := (Array.getElem?_eq_some_iff.1 (HMK.out D hm).1).1
          omega, HDn.out⟩
        have hs2 := HM2.out.size
        have hDle : ∀ E ∈ D :: Ds, w.heap.size ≤ E := fun E hE => by
          rcases List.mem_cons.1 hE with rfl | hE
          · omega
          · exact HDw.out E hE
        have HDND := Lib.hid hDnd
        have HDLE := Lib.hid hDle
        obtain ⟨ef1, ef2, ef3, ef4, ef5⟩ := enterAll_fields (spotOf l) (-1) (onL S slot) T
        rw [hT1] at ef1 ef2 ef3 ef4 ef5
        have HV1 := Lib.hid (show T1.values l.key = some gT by rw [ef4]; exact HG.out)
        have hia1 : (T1.areas (spotOf l)).isSome = true := by rw [ef5]; exact HIA.out
        obtain ⟨⟨ax, ay⟩, ha1⟩ := Option.isSome_iff_exists.1 hia1
        have HA1 := Lib.hid ha1
        have HT1 := Lib.hid hT1
        have hqb := HSM.out.values l.key gT l.val qT HG.out HQ.out
        have hq1 := HQ1.out
        clear hDW hDW2 hMW hK0 hT1 hDnd hDle ef1 ef2 ef3 ef4 ef5 hia1 ha1 hnm hcs hsl hlim x0 x2 l1
        clear HMK HDn HDw HD2 HM2 HB0 HB5 HB6 HSO
        have HJQ := Lib.hid hJ1
        clear hJ1
        go_wp2_with fail
        go_cut [44] (fun _ wr => QS w own h l (D :: Ds) w.heap.size B5 B6 (nodeSet T1 l slot false) wr)
        case first =>
          clear hqb hq1
          have hJ1 := HJQ.out
          have HJ1 := Lib.hid hJ1
          obtain ⟨D2, hM2, b0, o0, b5, o5, b6, o6, hmk⟩ := hJ1
          have x0 : W.cell? ⟨w.heap.size, 0, none⟩ = some (.pointer (some ⟨h.d, 0, none⟩)) := cell_at b0 rfl
          have x3 : W.cell? ⟨h.d, 3, none⟩ = some (.map (some h.a)) := cell_at D2.hd rfl
          have x8 : W.cell? ⟨B6, 0, none⟩ = some (.string l.key) := cell_at b6 rfl
          have x9 : W.cell? ⟨B6, 1, none⟩ = some (.string l.val) := cell_at b6 rfl
          obtain ⟨m, sA, bA, sP, bP, A⟩ := D2.areaAt HA1.out
          have l1 := (A.hm.move (w' := W.drew) rfl).lookup spotK Tryz.underlying121 (z := .agg #[.pointer none, .pointer none]) (by kernel_rfl) (spotOf l) false
          rw [A.hv] at l1
          simp only [Option.getD_some, spotOf, spotV, Bool.false_eq_true, if_false] at l1
          have l2 := fun W => area_nodes (.pointer (some ⟨sA, 0, none⟩)) (.pointer (some ⟨sP, 0, none⟩)) W
          have hx : ∀ b, own b = none → ¬ b = bA := fun b ob e => by have := A.oA; rw [← e, ob] at this; cases this
          have hxd : ¬ h.d = bA := fun e => by have h1 := D2.od; rw [e, A.oA] at h1; cases h1
          have HK := Lib.hid (show ∀ w', Mod (fun j => j = bA) W w' → Mod (fun j => j = bA) W w' ∧ w'.cell? ⟨w.heap.size, 0, none⟩ = some (.pointer (some ⟨h.d, 0, none⟩)) ∧ w'.cell? ⟨h.d, 3, none⟩ = some (.map (some h.a)) ∧ w'.cell? ⟨B6, 0, none⟩ = some (.string l.key) ∧ w'.cell? ⟨B6, 1, none⟩ = some (.string l.val) from
            fun w' hw => ⟨hw, hw.cell' x0 (hx _ o0), hw.cell' x3 hxd, hw.cell' x8 (hx _ o6), hw.cell' x9 (hx _ o6)⟩)
          have AA := Lib.hid A
          have HD2 := Lib.hid D2
          clear A D2 hx b0 b5 b6 hM2 hmk
          go_region_held3 (fun w' => Mod (fun j => j = bA) W w' ∧ w'.cell? ⟨w.heap.size, 0, none⟩ = some (.pointer (some ⟨h.d, 0, none⟩)) ∧ w'.cell? ⟨h.d, 3, none⟩ = some (.map (some h.a)) ∧ w'.cell? ⟨B6, 0, none⟩ = some (.string l.key) ∧ w'.cell? ⟨B6, 1, none⟩ = some (.string l.val))
            (first
            | exact HK.out _ ((Mod.refl _ W).drew)
            | exact HK.out _ yM)
            (first
            | (go_at_call 61; refine remove_k _ _ sA bA 512 ax slot (AA.out.hA.move rfl rfl) ?_; intro vb w4 hM4 hS4
               have yM : Mod (fun j => j = bA) W w4 := (Mod.refl (fun j => j = bA) W).drew.trans hM4 (fun _ _ e => e)))
          all_goals (
            go_wp2_with fail
            go_meet
            have zD := HD2.out.setAn AA.out.oA yM hS4 AA.out.hP AA.out.hm AA.out.hf AA.out.hv AA.out.iA AA.out.oP AA.out.iP
            have e4 : nodeSet T1 l slot false = { T1 with areas := upd T1.areas (spotOf l) (some (delW 512 ax slot, ay)) } := by unfold nodeSet; rw [HA1.out]; simp
            exact HJ1.out.turn AA.out.oA (by simp) yM (by rw [e4]; exact zD))
        case rest =>
          obtain ⟨T2, hT2⟩ : ∃ T2, nodeSet T1 l slot false = T2 := ⟨_, rfl⟩
          rw [hT2] at hcut
          have hv2 : T2.values l.key = some gT := by rw [← hT2, nodeSet_values]; exact HV1.out
          have HV2 := Lib.hid hv2
          have HTB := Lib.hid hT2
          have HJ2 := Lib.hid hcut
          clear hcut hT2 hv2
          obtain ⟨T3, hT3⟩ : ∃ T3 : St, T3 = { T2 with values := upd T2.values l.key (some (upd gT l.val (some (qT - 1)))) } := ⟨_, rfl⟩
          have HT3 := Lib.hid hT3
          clear hT3
          go_wp2_with fail
          go_cut [55] (fun _ wr => QS w own h l (D :: Ds) w.heap.size B5 B6 T3 wr)
          case first =>
            have hJ2 := HJ2.out
            obtain ⟨D2, hM2, b0, o0, b5, o5, b6, o6, hmk⟩ := hJ2
            have x0 : wc.cell? ⟨w.heap.size, 0, none⟩ = some (.pointer (some ⟨h.d, 0, none⟩)) := cell_at b0 rfl
            have x4 : wc.cell? ⟨h.d, 4, none⟩ = some (.map (some h.v)) := cell_at D2.hd rfl
            have x7 : wc.cell? ⟨B5, 0, none⟩ = some (.string l.key) := cell_at b5 rfl
            have x7' : wc.cell? ⟨B5, 1, none⟩ = some (.string l.val) := cell_at b5 rfl
            obtain ⟨m, hm, hmf⟩ := D2.fv
            have hat := hmf l.key
            rw [HV2.out] at hat
            obtain ⟨v, hv, bI, rfl, oI, mi, hmi, hfi⟩ := hat.some_l
            have l1 := (hm.move (w' := wc.drew) rfl).lookup strK Tryz.underlying122 (z := .map none) (by kernel_rfl) l.key false
            rw [hv] at l1
            simp only [Bool.false_eq_true, if_false, Option.getD_some] at l1
            have hq : (aget mi l.val).getD (.int .i64 0) = .int .i64 qT := by
              have := hfi l.val
              rw [HQ.out] at this
              obtain ⟨y, hy, hy2⟩ := this.some_l
              rw [hy]; exact hy2
            have l2 := (hmi.move (w' := wc.drew) rfl).lookup strK Tryz.underlying159 (z := .int .i64 0) (by kernel_rfl) l.val false
            rw [hq] at l2
            simp only [Bool.false_eq_true, if_false] at l2
            obtain ⟨oU, hU⟩ := hmi.update_any strK Tryz.underlying159 l.val
            have hb1 : IntKind.i64.wrap (qT - 1) = qT - 1 := by rw [IntKind.wrap_i64]; omega
            have zu : (Instr.mapUpdate 159 (.map (some bI)) (.string l.val) (.int .i64 (qT - 1))).run Tryz.prog wc.drew = _ := (hU wc.drew rfl (.int .i64 (qT - 1))).1
            have zm := (hU wc.drew rfl (.int .i64 (qT - 1))).2
            have zg : FMap Value.string (putObj wc.drew bI (oU (.int .i64 (qT - 1)) wc.drew)) bI numR (upd gT l.val (some (qT - 1))) := FMap.set hfi zm rfl (fun _ _ _ _ h => h)
            have zP : Mod (fun j => j = bI) wc (putObj wc.drew bI (oU (.int .i64 (qT - 1)) wc.drew)) := (((Mod.refl (fun j => j = bI) wc).drew)).put (fun _ => rfl) _
            have zD := D2.setInner oI zP hm hmf hv zg
            rw [← HT3.out] at zD
            have hx : ∀ b, own b = none → ¬ b = bI := fun b ob e => by rw [← e, ob] at oI; cases oI
            have hxd : ¬ h.d = bI := fun e => by have h1 := D2.od; rw [e, oI] at h1; cases h1
            have zJ := HJ2.out.turn oI (by simp) zP zD
            have HZJ := Lib.hid zJ
            have HK := Lib.hid (show ∀ w', Mod (fun j => j = bI) wc w' → Mod (fun j => j = bI) wc w' ∧ w'.cell? ⟨w.heap.size, 0, none⟩ = some (.pointer (some ⟨h.d, 0, none⟩)) ∧ w'.cell? ⟨h.d, 4, none⟩ = some (.map (some h.v)) ∧ w'.cell? ⟨B5, 0, none⟩ = some (.string l.key) ∧ w'.cell? ⟨B5, 1, none⟩ = some (.string l.val) from
              fun w' hw => ⟨hw, hw.cell' x0 (hx _ o0), hw.cell' x4 hxd, hw.cell' x7 (hx _ o5), hw.cell' x7' (hx _ o5)⟩)
            have HZP := Lib.hid zP
            clear zJ zD zg zm hq hU hat hmf hm hmi hfi hv D2 hM2 b0 b5 b6 hmk zP hx hqb hq1
            go_region_held3 (fun w' => Mod (fun j => j = bI) wc w' ∧ w'.cell? ⟨w.heap.size, 0, none⟩ = some (.pointer (some ⟨h.d, 0, none⟩)) ∧ w'.cell? ⟨h.d, 4, none⟩ = some (.map (some h.v)) ∧ w'.cell? ⟨B5, 0, none⟩ = some (.string l.key) ∧ w'.cell? ⟨B5, 1, none⟩ = some (.string l.val))
              (first
              | exact HK.out _ ((Mod.refl _ wc).drew)
              | exact HK.out _ HZP.out)
              (fail)
            all_goals (
              go_wp2_with fail
              go_meet
              exact HZJ.out)
          case rest =>
            have HJ3 := Lib.hid hcut
            clear hcut
            have hv3 : T3.values l.key = some (upd gT l.val (some (qT - 1))) := by rw [HT3.out]; exact upd_same _ _ _
            have HV3 := Lib.hid hv3
            clear hv3
            go_upto_region 10 with fail
            go_cut [66] (fun v66 wr => v66 = .bool (qT - 1 == 0) ∧ QS w own h l (D :: Ds) w.heap.size B5 B6 T3 wr)
            case first =>
              obtain ⟨D2, hM2, b0, o0, b5, o5, b6, o6, hmk⟩ := HJ3.out
              have x0 : wc.cell? ⟨w.heap.size, 0, none⟩ = some (.pointer (some ⟨h.d, 0, none⟩)) := cell_at b0 rfl
              have x4 : wc.cell? ⟨h.d, 4, none⟩ = some (.map (some h.v)) := cell_at D2.hd rfl
              have x7 : wc.cell? ⟨B5, 0, none⟩ = some (.string l.key) := cell_at b5 rfl
              have x7' : wc.cell? ⟨B5, 1, none⟩ = some (.string l.val) := cell_at b5 rfl
              obtain ⟨m, hm, hmf⟩ := D2.fv
              have hat := hmf l.key
              rw [HV3.out] at hat
              obtain ⟨v, hv, bI, rfl, oI, mi, hmi, hfi⟩ := hat.some_l
              have l1 := (hm.move (w' := wc.drew) rfl).lookup strK Tryz.underlying122 (z := .map none) (by kernel_rfl) l.key false
              rw [hv] at l1
              simp only [Bool.false_eq_true, if_false, Option.getD_some] at l1
              have hq : (aget mi l.val).getD (.int .i64 0) = .int .i64 (qT - 1) := by
                have := hfi l.val
                rw [upd_same] at this
                obtain ⟨y, hy, hy2⟩ := this.some_l
                rw [hy]; exact hy2
              have l2 := (hmi.move (w' := wc.drew) rfl).lookup strK Tryz.underlying159 (z := .int .i64 0) (by kernel_rfl) l.val false
              rw [hq] at l2
              simp only [Bool.false_eq_true, if_false] at l2
              clear hq hat hmf hm hmi hfi hv D2 hM2 b0 b5 b6 hmk hqb hq1
              go_region
              all_goals (
                go_wp2_with fail
                go_meet
                exact ⟨rfl, HJ3.out.below ((Below.refl _ wc).drew)⟩)
            obtain ⟨rfl, hJ4⟩ := hcut
            have HJ4 := Lib.hid hJ4
            clear hJ4 HJ3
            go_step
            go_cut [75] (fun _ wr => QS w own h l (D :: Ds) w.heap.size B5 B6 (dropV T2 l) wr)
            case first =>
              by_cases hz : qT - 1 = 0
              · have hzb : (qT - 1 == 0) = true := by simpa using hz
                have HZ0 := Lib.hid hz
                clear hz hqb hq1
                go_wp2_with fail
                go_cut [75] (fun _ wr => QS w own h l (D :: Ds) w.heap.size B5 B6 { T2 with values := upd T2.values l.key (some (upd gT l.val none)) } wr)
                case first =>
                  obtain ⟨D2, hM2, b0, o0, b5, o5, b6, o6, hmk⟩ := HJ4.out
                  have x0 : wc.cell? ⟨w.heap.size, 0, none⟩ = some (.pointer (some ⟨h.d, 0, none⟩)) := cell_at b0 rfl
                  have x3 : wc.cell? ⟨h.d, 3, none⟩ = some (.map (some h.a)) := cell_at D2.hd rfl
                  have x4 : wc.cell? ⟨h.d, 4, none⟩ = some (.map (some h.v)) := cell_at D2.hd rfl
                  have x7 : wc.cell? ⟨B5, 0, none⟩ = some (.string l.key) := cell_at b5 rfl
                  have x7' : wc.cell? ⟨B5, 1, none⟩ = some (.string l.val) := cell_at b5 rfl
                  have x8 : wc.cell? ⟨B6, 0, none⟩ = some (.string l.key) := cell_at b6 rfl
                  have x9 : wc.cell? ⟨B6, 1, none⟩ = some (.string l.val) := cell_at b6 rfl
                  obtain ⟨m, hm, hmf⟩ := D2.fv
                  have hat := hmf l.key
                  rw [HV3.out] at hat
                  obtain ⟨v, hv, bI, rfl, oI, mi, hmi, hfi⟩ := hat.some_l
                  have l1 := (hm.move (w' := wc.drew) rfl).lookup strK Tryz.underlying122 (z := .map none) (by kernel_rfl) l.key false
                  rw [hv] at l1
                  simp only [Bool.false_eq_true, if_false, Option.getD_some] at l1
                  obtain ⟨oU, zu, zm⟩ := (hmi.move (w' := wc.drew) rfl).delete (ty := 0) strK Tryz.underlying159 l.val
                  have zg : FMap Value.string (putObj wc.drew bI oU) bI numR (upd (upd gT l.val (some (qT - 1))) l.val none) := FMap.del hmi.nodup hfi zm (fun _ _ _ h => h)
                  rw [upd_upd] at zg
                  have zP : Mod (fun j => j = bI) wc (putObj wc.drew bI oU) := ((Mod.refl (fun j => j = bI) wc).drew).put (fun _ => rfl) _
                  have zD := D2.setInner oI zP hm hmf hv zg
                  have e4 : ({ T3 with values := upd T3.values l.key (some (upd gT l.val none)) } : St) = { T2 with values := upd T2.values l.key (some (upd gT l.val none)) } := by rw [HT3.out]; simp only [upd_upd]
                  rw [e4] at zD
                  have hx : ∀ b, own b = none → ¬ b = bI := fun b ob e => by rw [← e, ob] at oI; cases oI
                  have hxd : ¬ h.d = bI := fun e => by have h1 := D2.od; rw [e, oI] at h1; cases h1
                  have HZJ := Lib.hid (HJ4.out.turn oI (by simp) zP zD)
                  have HK := Lib.hid (show ∀ w', Mod (fun j => j = bI) wc w' → Mod (fun j => j = bI) wc w' ∧ w'.cell? ⟨w.heap.size, 0, none⟩ = some (.pointer (some ⟨h.d, 0, none⟩)) ∧ w'.cell? ⟨h.d, 4, none⟩ = some (.map (some h.v)) ∧ w'.cell? ⟨B5, 0, none⟩ = some (.string l.key) ∧ w'.cell? ⟨B5, 1, none⟩ = some (.string l.val) from
                    fun w' hw => ⟨hw, hw.cell' x0 (hx _ o0), hw.cell' x4 hxd, hw.cell' x7 (hx _ o5), hw.cell' x7' (hx _ o5)⟩)
                  have HZP := Lib.hid zP
                  clear zD zg zm hat hmf hm hmi hfi hv D2 hM2 b0 b5 b6 hmk zP hx x3 x8 x9 e4
                  go_region_held3 (fun w' => Mod (fun j => j = bI) wc w' ∧ w'.cell? ⟨w.heap.size, 0, none⟩ = some (.pointer (some ⟨h.d, 0, none⟩)) ∧ w'.cell? ⟨h.d, 4, none⟩ = some (.map (some h.v)) ∧ w'.cell? ⟨B5, 0, none⟩ = some (.string l.key) ∧ w'.cell? ⟨B5, 1, none⟩ = some (.string l.val))
                    (first
                    | exact HK.out _ ((Mod.refl _ wc).drew)
                    | exact HK.out _ HZP.out)
                    (fail)
                  all_goals (
                    go_wp2_with fail
                    go_meet
                    exact HZJ.out)
                case rest =>
                  have HJ5 := Lib.hid hcut
                  clear hcut HJ4
                  go_wp2_with fail
                  obtain ⟨D2, hM2, b0, o0, b5, o5, b6, o6, hmk⟩ := HJ5.out
                  have x0 : wc.cell? ⟨w.heap.size, 0, none⟩ = some (.pointer (some ⟨h.d, 0, none⟩)) := cell_at b0 rfl
                  have x3 : wc.cell? ⟨h.d, 3, none⟩ = some (.map (some h.a)) := cell_at D2.hd rfl
                  have x4 : wc.cell? ⟨h.d, 4, none⟩ = some (.map (some h.v)) := cell_at D2.hd rfl
                  have x7 : wc.cell? ⟨B5, 0, none⟩ = some (.string l.key) := cell_at b5 rfl
                  have x7' : wc.cell? ⟨B5, 1, none⟩ = some (.string l.val) := cell_at b5 rfl
                  have x8 : wc.cell? ⟨B6, 0, none⟩ = some (.string l.key) := cell_at b6 rfl
                  have x9 : wc.cell? ⟨B6, 1, none⟩ = some (.string l.val) := cell_at b6 rfl
                  obtain ⟨m, hm, hmf⟩ := D2.fa
                  obtain ⟨oU, zu, zm⟩ := (hm.move (w' := wc.drew) rfl).delete (ty := 0) spotK Tryz.underlying121 (spotOf l)
                  have zP : Mod (fun j => j = h.a) wc (putObj wc.drew h.a oU) := ((Mod.refl (fun j => j = h.a) wc).drew).put (fun _ => rfl) _
                  have zD := D2.delArea zP hm.nodup hmf zm
                  have e4 : ({ ({ T2 with values := upd T2.values l.key (some (upd gT l.val none)) } : St) with areas := upd ({ T2 with values := upd T2.values l.key (some (upd gT l.val none)) } : St).areas (spotOf l) none } : St) = dropV T2 l := by
                    unfold dropV
                    rw [innerG_at HV2.out]
                    simp only [HQ.out, Option.getD_some]
                    rw [if_pos HZ0.out]
                  rw [e4] at zD
                  simp only [spotOf, spotV] at zu
                  have hx : ∀ b, own b = none → ¬ b = h.a := fun b ob e => by have := D2.oa; rw [← e, ob] at this; cases this
                  have hxd : ¬ h.d = h.a := fun e => by have h1 := D2.od; rw [e, D2.oa] at h1; cases h1
                  have HZJ := Lib.hid (HJ5.out.turn D2.oa (by simp) zP zD)
                  have HK := Lib.hid (show ∀ w', Mod (fun j => j = h.a) wc w' → Mod (fun j => j = h.a) wc w' ∧ w'.cell? ⟨w.heap.size, 0, none⟩ = some (.pointer (some ⟨h.d, 0, none⟩)) ∧ w'.cell? ⟨h.d, 3, none⟩ = some (.map (some h.a)) ∧ w'.cell? ⟨B6, 0, none⟩ = some (.string l.key) ∧ w'.cell? ⟨B6, 1, none⟩ = some (.string l.val) from
                    fun w' hw => ⟨hw, hw.cell' x0 (hx _ o0), hw.cell' x3 hxd, hw.cell' x8 (hx _ o6), hw.cell' x9 (hx _ o6)⟩)
                  have HZP := Lib.hid zP
                  clear zD zm hmf hm D2 hM2 b0 b5 b6 hmk zP hx x4 x7 x7' e4
                  go_region_held3 (fun w' => Mod (fun j => j = h.a) wc w' ∧ w'.cell? ⟨w.heap.size, 0, none⟩ = some (.pointer (some ⟨h.d, 0, none⟩)) ∧ w'.cell? ⟨h.d, 3, none⟩ = some (.map (some h.a)) ∧ w'.cell? ⟨B6, 0, none⟩ = some (.string l.key) ∧ w'.cell? ⟨B6, 1, none⟩ = some (.string l.val))
                    (first
                    | exact HK.out _ ((Mod.refl _ wc).drew)
                    | exact HK.out _ HZP.out)
                    (fail)
                  all_goals (
                    go_wp2_with fail
                    go_meet
                    exact HZJ.out)
              · have hzb : (qT - 1 == 0) = false := by simpa using hz
                have e3 : dropV T2 l = T3 := by
                  unfold dropV
                  rw [innerG_at HV2.out]
                  simp only [HQ.out, Option.getD_some]
                  rw [if_neg hz, HT3.out]
                clear hz hqb hq1
                go_wp2_with fail
                go_meet
                rw [e3]
                exact HJ4.out
            case rest =>
              obtain ⟨T4, hT4⟩ : ∃ T4, dropV T2 l = T4 := ⟨_, rfl⟩
              rw [hT4] at hcut
              obtain ⟨g4, hg4⟩ : ∃ g4, T4.values l.key = some g4 := by
                rw [← hT4]
                unfold dropV
                dsimp only
                split
                · exact ⟨_, upd_same _ _ _⟩
                · exact ⟨_, upd_same _ _ _⟩
              have HV4 := Lib.hid hg4
              have HT4 := Lib.hid hT4
              have HJ6 := Lib.hid hcut
              clear hcut hT4 hg4 HJ4 hqb hq1
              go_upto_region 13 with fail
              go_cut [89] (fun v89 wr => ∃ n : Nat, v89 = .bool ((n : Int) == 0) ∧ (n = 0 ↔ ∀ v, g4 v = none) ∧ QS w own h l (D :: Ds) w.heap.size B5 B6 T4 wr)
              case first =>
                obtain ⟨D2, hM2, b0, o0, b5, o5, b6, o6, hmk⟩ := HJ6.out
                have x0 : wc.cell? ⟨w.heap.size, 0, none⟩ = some (.pointer (some ⟨h.d, 0, none⟩)) := cell_at b0 rfl
                have x3 : wc.cell? ⟨h.d, 3, none⟩ = some (.map (some h.a)) := cell_at D2.hd rfl
                have x4 : wc.cell? ⟨h.d, 4, none⟩ = some (.map (some h.v)) := cell_at D2.hd rfl
                have x7 : wc.cell? ⟨B5, 0, none⟩ = some (.string l.key) := cell_at b5 rfl
                have x7' : wc.cell? ⟨B5, 1, none⟩ = some (.string l.val) := cell_at b5 rfl
                have x8 : wc.cell? ⟨B6, 0, none⟩ = some (.string l.key) := cell_at b6 rfl
                have x9 : wc.cell? ⟨B6, 1, none⟩ = some (.string l.val) := cell_at b6 rfl
                obtain ⟨m, hm, hmf⟩ := D2.fv
                have hat := hmf l.key
                rw [HV4.out] at hat
                obtain ⟨v, hv, bI, rfl, oI, mi, hmi, hfi⟩ := hat.some_l
                have l1 := (hm.move (w' := wc.drew) rfl).lookup strK Tryz.underlying122 (z := .map none) (by kernel_rfl) l.key false
                rw [hv] at l1
                simp only [Bool.false_eq_true, if_false, Option.getD_some] at l1
                have hnil := Lib.hid (aget_nil_iff hfi)
                have l2 := map_len_at (ty := 0) (hmi.move (w' := wc.drew) rfl) Tryz.underlying159
                have l2b := map_len_at (ty := 3) (hmi.move (w' := wc.drew) rfl) Tryz.underlying159
                clear hat hmf hm hmi hfi hv D2 hM2 b0 b5 b6 hmk x3 x8 x9 x7'
                go_region
                all_goals (
                  go_wp2_with fail
                  go_meet
                  exact ⟨_, rfl, hnil.out, HJ6.out.below ((Below.refl _ wc).drew)⟩)
              obtain ⟨n, rfl, hn4, hJ7⟩ := hcut
              have HJ7 := Lib.hid hJ7
              have HN4 := Lib.hid hn4
              clear hJ7 hn4 HJ6
              go_step
              have hQ : dropK T4 l.key = quitOne slot (onL S slot) T l := by
                unfold quitOne
                rw [HT1.out, HTB.out, HT4.out]
              by_cases hz : n = 0
              · have hzb : ((n : Int) == 0) = true := by subst hz; rfl
                have hzk : dropK T4 l.key = { T4 with values := upd T4.values l.key none } := by
                  unfold dropK
                  rw [if_pos (by rw [innerG_at HV4.out]; exact HN4.out.1 hz)]
                have HZK := Lib.hid hzk
                clear hz hzk
                go_wp2_with fail
                obtain ⟨D2, hM2, b0, o0, b5, o5, b6, o6, hmk⟩ := HJ7.out
                have x0 : wc.cell? ⟨w.heap.size, 0, none⟩ = some (.pointer (some ⟨h.d, 0, none⟩)) := cell_at b0 rfl
                have x3 : wc.cell? ⟨h.d, 3, none⟩ = some (.map (some h.a)) := cell_at D2.hd rfl
                have x4 : wc.cell? ⟨h.d, 4, none⟩ = some (.map (some h.v)) := cell_at D2.hd rfl
                have x7 : wc.cell? ⟨B5, 0, none⟩ = some (.string l.key) := cell_at b5 rfl
                have x7' : wc.cell? ⟨B5, 1, none⟩ = some (.string l.val) := cell_at b5 rfl
                have x8 : wc.cell? ⟨B6, 0, none⟩ = some (.string l.key) := cell_at b6 rfl
                have x9 : wc.cell? ⟨B6, 1, none⟩ = some (.string l.val) := cell_at b6 rfl
                obtain ⟨m, hm, hmf⟩ := D2.fv
                obtain ⟨oU, zu, zm⟩ := (hm.move (w' := wc.drew) rfl).delete (ty := 0) strK Tryz.underlying122 l.key
                have zP : Mod (fun j => j = h.v) wc (putObj wc.drew h.v oU) := ((Mod.refl (fun j => j = h.v) wc).drew).put (fun _ => rfl) _
                have zD := D2.delKey zP hm.nodup hmf zm
                rw [← HZK.out] at zD
                have hx : ∀ b, own b = none → ¬ b = h.v := fun b ob e => by have := D2.ov; rw [← e, ob] at this; cases this
                have hxd : ¬ h.d = h.v := fun e => by have h1 := D2.od; rw [e, D2.ov] at h1; cases h1
                have HJ8 := Lib.hid (HJ7.out.turn D2.ov (by simp) zP (show DomAt (putObj wc.drew h.v oU) h own (quitOne slot (onL S slot) T l) by rw [← hQ]; exact zD))
                have HK := Lib.hid (show ∀ w', Mod (fun j => j = h.v) wc w' → Mod (fun j => j = h.v) wc w' ∧ w'.cell? ⟨w.heap.size, 0, none⟩ = some (.pointer (some ⟨h.d, 0, none⟩)) ∧ w'.cell? ⟨h.d, 4, none⟩ = some (.map (some h.v)) ∧ w'.cell? ⟨B5, 0, none⟩ = some (.string l.key) from
                  fun w' hw => ⟨hw, hw.cell' x0 (hx _ o0), hw.cell' x4 hxd, hw.cell' x7 (hx _ o5)⟩)
                have HZP := Lib.hid zP
                clear hQ HJ7 zD zm hmf hm D2 hM2 b0 b5 b6 hmk zP hx x3 x8 x9 x7'
                go_region_held3 (fun w' => Mod (fun j => j = h.v) wc w' ∧ w'.cell? ⟨w.heap.size, 0, none⟩ = some (.pointer (some ⟨h.d, 0, none⟩)) ∧ w'.cell? ⟨h.d, 4, none⟩ = some (.map (some h.v)) ∧ w'.cell? ⟨B5, 0, none⟩ = some (.string l.key))
                  (first
                  | exact HK.out _ ((Mod.refl _ wc).drew)
                  | exact HK.out _ HZP.out)
                  (fail)
                all_goals (
                  go_wp2_with fail
                  obtain ⟨D9, hM9, b09, _, _, _, _, _, hmk9⟩ := HJ8.out
                  refine HJJ.out _ _ ⟨k + 1, D :: Ds, ?_⟩ ?_
                  · repeat apply Exists.intro
                    refine ⟨rfl, by go_num, by omega, by rw [HT2.out]; exact D9, hM9, b09, HDND.out, HDLE.out, hmk9⟩
                  · simp [intOf]; omega)
              · have hzb : ((n : Int) == 0) = false := by simpa using hz
                have hzk : dropK T4 l.key = T4 := by
                  unfold dropK
                  rw [if_neg (by rw [innerG_at HV4.out]; exact fun h => hz (HN4.out.2 h))]
                have HZK := Lib.hid hzk
                clear hz hzk
                have HJ8 := Lib.hid (show QS w own h l (D :: Ds) w.heap.size B5 B6 (quitOne slot (onL S slot) T l) wc by rw [← hQ, HZK.out]; exact HJ7.out)
                clear hQ HJ7
                go_wp2_with fail
                obtain ⟨D9, hM9, b09, _, _, _, _, _, hmk9⟩ := HJ8.out
                refine HJJ.out _ _ ⟨k + 1, D :: Ds, ?_⟩ ?_
                · repeat apply Exists.intro
                  refine ⟨rfl, by go_num, by omega, by rw [HT2.out]; exact D9, hM9, b09, HDND.out, HDLE.out, hmk9⟩
                · simp [intOf]; omega
    · obtain rfl : k = ls.length := by omega
      rw [List.take_length] at Dk
      have x0 : wr.cell? ⟨w.heap.size, 0, none⟩ = some (.pointer (some ⟨h.d, 0, none⟩)) := cell_at hbk rfl
      have x1 : wr.cell? ⟨h.d, 0, none⟩ = some (.map (some h.n)) := cell_at Dk.hd rfl
      obtain ⟨m, hm, hmf⟩ := Dk.fn
      obtain ⟨oU, zu, zm⟩ := hm.delete (ty := 0) intK Tryz.underlying118 slot
      have zP : Mod (fun j => j = h.n) wr (putObj wr h.n oU) := (Mod.refl (fun j => j = h.n) wr).put (fun _ => rfl) _
      have zD := Dk.delNode zP hm.nodup hmf zm
      have hx : ∀ b, own b = none → ¬ b = h.n := fun b ob e => by have := Dk.on_; rw [← e, ob] at this; cases this
      have hxd : ¬ h.d = h.n := fun e => by have h1 := Dk.on_; rw [← e, Dk.od] at h1; cases h1
      have HK := Lib.hid (show ∀ w', Mod (fun j => j = h.n) wr w' → Mod (fun j => j = h.n) wr w' ∧ w'.cell? ⟨w.heap.size, 0, none⟩ = some (.pointer (some ⟨h.d, 0, none⟩)) ∧ w'.cell? ⟨h.d, 0, none⟩ = some (.map (some h.n)) from
        fun w' hw => ⟨hw, hw.cell' x0 (hx _ hown0), hw.cell' x1 hxd⟩)
      have HZM := Lib.hid (hMk.seq (zP.to_mut Dk.on_ (by simp)))
      have hms := hMk.size
      have HDk := Lib.hid Dk
      have HZD := Lib.hid zD
      have HZP := Lib.hid zP
      have HDm := Lib.hid hDm
      have HDn := Lib.hid hDn
      have HDw := Lib.hid hDw
      clear Dk hMk hDm hDn hDw hmf hlr hm hbk zm zD zP
      go_wp2_with fail
      show LeavesInM _ _ _ _ _ _ _ _ _
      refine leaves_marks Ds _ HDn.out (fun D hD => HZP.out.keep (HDm.out D hD).1 (hx _ (HDm.out D hD).2)) (fun w' hw' => ?_)
      have hq := HR.out w' (HZD.out.mod hw' (fun j hj => (HDm.out j hj).2)) (HZM.out.trans hw' (fun i hi hm => by have := HDw.out i hm; omega))
      exact ⟨_, results_none rfl _ _ _, hq⟩
end Go.Proofs.YtmenipaibjifiaaGreatDoor

namespace Go.Proofs.YtmenipaibjifiaaGreatDoor
open Go.RowKit Go.BigFrame

theorem DomAt.delOn {w w' : World} {h : Hdr} {own : Own'} {S : St} (D : DomAt w h own S) (hM : Mod (fun j => j = h.o) w w') {m : List (Int × Value)} (hn : (akeys m).Nodup) (hf : ∀ k, OptR (onR own w k) (aget m k) (S.on k)) {k : Int} (hz : MapAt (Value.int .i64) w' h.o (adel m k)) : DomAt w' h own { S with on := upd S.on k none } :=
  have ne : ∀ {u : Owner}, Owner.ons ≠ u → ∀ j, j = h.o → own j ≠ some u := fun hu => one_ne D.oo hu
  D.setOns (.of hM) (fun k hk => D.lim k (Nat.le_trans hM.size hk)) (FMap.del hn hf hz (fun _ _ _ hr => onR_step (.of hM) (ne (by simp)) (ne (by simp)) hr))
theorem DomAt.delGuest {w w' : World} {h : Hdr} {own : Own'} {S : St} (D : DomAt w h own S) (hM : Mod (fun j => j = h.g) w w') {m : List (Int × Value)} (hn : (akeys m).Nodup) (hf : ∀ k, OptR (guestR own w k) (aget m k) (S.guests k)) {k : Int} (hz : MapAt (Value.int .i64) w' h.g (adel m k)) : DomAt w' h own { S with guests := upd S.guests k none } :=
  have ne : ∀ {u : Owner}, Owner.guests ≠ u → ∀ j, j = h.g → own j ≠ some u := fun hu => one_ne D.og hu
  D.setGuests (.of hM) (fun k hk => D.lim k (Nat.le_trans hM.size hk)) (FMap.del hn hf hz (fun _ _ _ hr => guestR_step (.of hM) (ne (by simp)) hr))

set_option maxRecDepth 100000 in
set_option maxHeartbeats 40000000 in
theorem dapplyDel_k (R : Ending → World → Prop) (w : World) (h : Hdr) (own : Own') (S : St) (ok : Nat → Prop) (x : Chg) (cs : List Value) (P : Pre w h own S) (hok : ∀ k, ok k → k < w.heap.size ∧ ¬ Mut own k) (hx : chgK w ok x cs) (hs : ChgFit x) (hG : GOk w)
    (hk : x.kind = 2) (hf : fitsS S x = true) (hnode : ∀ s ls, S.nodes s = some ls → ls.length ≤ 1048576)
    (hR : ∀ w', DomAt w' h own (delNode S x.slot) → Mod (Mut own) w w' → R (.returned (.int .i64 0)) w') :
    Calls Tryz.prog 12 #[.pointer (some ⟨h.d, 0, none⟩), .agg cs.toArray] w R := by
  have D := P.D
  have I := P.I
  have hx0 := hx
  obtain ⟨vla, vta, vca, vlb, vtb, vcb, vplc, vpnc, vptc, vpac, vppc, rfl, hn1, hn2, hp3⟩ := chg_form hx
  have hs0 := hs
  obtain ⟨s1, s2⟩ := hs
  obtain ⟨_, _, _, en, hnl, _, _⟩ := hn2
  obtain ⟨_, _, _, _, _, ep, hpl, _, _, _, _⟩ := hp3
  simp only [List.cons.injEq, and_true, true_and] at en ep
  obtain ⟨rfl, rfl, rfl⟩ := en
  obtain ⟨rfl, rfl, rfl, rfl, rfl⟩ := ep
  have HR := Lib.hid hR
  have HOK := Lib.hid hok
  have HFF := Lib.hid hf
  clear hR hx hf
  have HKD := Lib.hid hk
  clear hk
  have t0 : Below w.heap.size w (w.alloc (.cells #[.int .i64 x.kind, .int .i64 x.slot, .int .i64 x.podSlot, .string x.was.name, vla, vta, vca, .bool x.was.cord, .string x.now.name, vlb, vtb, vcb, .bool x.now.cord, .string x.pod.name, vplc, vpnc, vptc, .string x.pod.req, vpac, vppc, .int .i64 x.pod.prio] 42)) := Below.alloc (Below.refl _ _) (Nat.le_refl _) _
  have oc0 : (w.alloc (.cells #[.int .i64 x.kind, .int .i64 x.slot, .int .i64 x.podSlot, .string x.was.name, vla, vta, vca, .bool x.was.cord, .string x.now.name, vlb, vtb, vcb, .bool x.now.cord, .string x.pod.name, vplc, vpnc, vptc, .string x.pod.req, vpac, vppc, .int .i64 x.pod.prio] 42)).heap[w.heap.size]? = some (.cells #[.int .i64 x.kind, .int .i64 x.slot, .int .i64 x.podSlot, .string x.was.name, vla, vta, vca, .bool x.was.cord, .string x.now.name, vlb, vtb, vcb, .bool x.now.cord, .string x.pod.name, vplc, vpnc, vptc, .string x.pod.req, vpac, vppc, .int .i64 x.pod.prio] 42) := heap_alloc_new _ _
  go_enter Tryz.func12, Tryz.ntmps12
  go_wp2_with (first | refine wpList_load_row rfl 42 _ rfl w.heap.size rfl 42 #[.int .i64 x.kind, .int .i64 x.slot, .int .i64 x.podSlot, .string x.was.name, vla, vta, vca, .bool x.was.cord, .string x.now.name, vlb, vtb, vcb, .bool x.now.cord, .string x.pod.name, vplc, vpnc, vptc, .string x.pod.req, vpac, vppc, .int .i64 x.pod.prio] (0, 0) _ oc0 Tryz.underlying42 rfl (by kernel_rfl) ?_)
  refine dfits_k _ _ h own S ok x [.int .i64 x.kind, .int .i64 x.slot, .int .i64 x.podSlot, .string x.was.name, vla, vta, vca, .bool x.was.cord, .string x.now.name, vlb, vtb, vcb, .bool x.now.cord, .string x.pod.name, vplc, vpnc, vptc, .string x.pod.req, vpac, vppc, .int .i64 x.pod.prio] (D.below t0) (fun k hk => by have := (HOK.out k hk).1; have := t0.size; omega) (chgOk.move hx0 (fun k hk => t0.block k (HOK.out k hk).1)) hs0 (GOk.below hG t0) (I.ons _) ?_
  intro w1 g1
  rw [HFF.out]
  have hB1 := t0.trans (g1.mono t0.size)
  have oc1 := (g1.block w.heap.size (by simp)).trans oc0
  clear oc0 t0 g1
  have hk := HKD.out
  have hf2 := HFF.out
  unfold fitsS at hf2
  rw [if_neg (by omega), if_pos hk] at hf2
  simp only [Bool.and_eq_true, decide_eq_true_eq] at hf2
  have D1 := D.below hB1
  have c0 : w1.cell? ⟨w.heap.size, 0, none⟩ = some (.int .i64 x.kind) := cell_at oc1 rfl
  have c1 : w1.cell? ⟨w.heap.size, 1, none⟩ = some (.int .i64 x.slot) := cell_at oc1 rfl
  rw [hk] at c0
  have hown0 : own w.heap.size = none := D.lim _ (Nat.le_refl _)
  obtain ⟨f1, f2⟩ := hf2
  obtain ⟨ls, hls⟩ := Option.isSome_iff_exists.1 f1
  have hnl2 : nodeL S x.slot = ls := by unfold nodeL; rw [hls]; rfl
  have HNL := Lib.hid hnl2
  have HLS := Lib.hid hls
  have HD1 := Lib.hid D1
  have HOC := Lib.hid oc1
  have HB1 := Lib.hid hB1
  have HNW := Lib.hid hnl
  have hll := Lib.hid (hnode x.slot ls hls)
  clear D1 oc1 hB1 hnl hpl hn1 hx0 hk hnl2 hls
  go_wp2_with fail
  refine quit_d _ _ h own S x.slot ls HD1.out I P.few HLS.out hll.out ?_
  intro w2 D2 M2
  have oc2 := M2.keep HOC.out (fun e => e.1 hown0)
  have y0 : w2.cell? ⟨w.heap.size, 0, none⟩ = some (.int .i64 x.kind) := cell_at oc2 rfl
  have y1 : w2.cell? ⟨w.heap.size, 1, none⟩ = some (.int .i64 x.slot) := cell_at oc2 rfl
  have hM := Lib.hid (((Mod.of_below HB1.out).non_to (X := Mut own)).seq M2)
  have x2 : w2.cell? ⟨h.d, 2, none⟩ = some (.map (some h.o)) := cell_at D2.hd rfl
  obtain ⟨m, hm, hmf⟩ := D2.fo
  obtain ⟨oU, zu, zm⟩ := (hm.move (w' := w2.drew) rfl).delete (ty := 0) intK Tryz.underlying120 x.slot
  have zP : Mod (fun j => j = h.o) w2 (putObj w2.drew h.o oU) := ((Mod.refl (fun j => j = h.o) w2).drew).put (fun _ => rfl) _
  have zD := D2.delOn zP hm.nodup hmf zm
  have nA0 : ¬ w.heap.size = h.o := fun e => by have := D2.oo; rw [← e, hown0] at this; cases this
  have nAd : ¬ h.d = h.o := fun e => by have h1 := D2.oo; rw [← e, D2.od] at h1; cases h1
  have hv := HR.out (putObj w2.drew h.o oU) (by unfold delNode; rw [HNL.out]; exact zD) (hM.out.seq (zP.to_mut D2.oo (by simp)))
  have HK := Lib.hid (show ∀ w', Mod (fun j => j = h.o) w2 w' → Mod (fun j => j = h.o) w2 w' ∧ w'.cell? ⟨h.d, 2, none⟩ = some (.map (some h.o)) ∧ w'.cell? ⟨w.heap.size, 1, none⟩ = some (.int .i64 x.slot) from
    fun w' hw => ⟨hw, hw.cell' x2 nAd, hw.cell' y1 nA0⟩)
  have HZP := Lib.hid zP
  have HV := Lib.hid hv
  clear hv zP zD zm hmf hm D2 M2 oc2
  go_wp2_with fail
  go_region
  all_goals (
    have hv := HV.out
    go_wp2_with fail
    exact hv)
end Go.Proofs.YtmenipaibjifiaaGreatDoor
