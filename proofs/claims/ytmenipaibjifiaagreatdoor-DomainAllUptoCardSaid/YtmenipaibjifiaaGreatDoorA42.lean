/-
berthref09: Keys, Values, Count.
berthref09: Count, Tally.
-/
import Derived.Test.YtmenipaibjifiaaGreatDoorA41
set_option linter.unusedVariables false
set_option linter.unusedSimpArgs false
namespace Go.Proofs.YtmenipaibjifiaaGreatDoor
open Go.RowKit Go.BigFrame

/-- The lists are as small as a Domains' are. -/
structure Sized (d : RDom) : Prop where
  n : d.nodes.length ≤ 512
  p : d.pods.length ≤ 2048
  nl : ∀ x ∈ d.nodes, x.labels.length ≤ 32
  pl : ∀ x ∈ d.pods, x.labels.length ≤ 32
theorem putB_length (s : ByteArray) : ∀ l : List ByteArray, (putB l s).length ≤ l.length + 1
  | [] => by simp [putB]
  | x :: r => by
    have := putB_length s r
    unfold putB
    split
    · simp
    · split <;> simp <;> omega
theorem putAll_length : ∀ (r l : List ByteArray), (putAll l r).length ≤ l.length + r.length
  | [], l => by simp [putAll]
  | s :: r, l => by
    have h1 := putAll_length r (putB l s)
    have h2 := putB_length s l
    show (putAll (putB l s) r).length ≤ _
    simp only [List.length_cons]
    omega
theorem putAll_snoc (l r : List ByteArray) (s : ByteArray) : putAll l (r ++ [s]) = putB (putAll l r) s := by
  unfold putAll
  rw [List.foldl_append]; rfl
theorem putAll_append (l r s : List ByteArray) : putAll l (r ++ s) = putAll (putAll l r) s := by
  unfold putAll
  rw [List.foldl_append]
def keysTo (d : RDom) (k : Nat) : List ByteArray := putAll [] ((d.nodes.take k).flatMap (fun x => x.labels.map Lab.key))
def keysIn (d : RDom) (k : Nat) (ls : List Lab) (j : Nat) : List ByteArray := putAll (keysTo d k) ((ls.take j).map Lab.key)
theorem keysIn_all (d : RDom) {k : Nat} (hk : k < d.nodes.length) : keysIn d k (d.nodes[k]'hk).labels (d.nodes[k]'hk).labels.length = keysTo d (k + 1) := by
  unfold keysIn keysTo
  rw [List.take_length, ← putAll_append, List.take_succ_eq_append_getElem hk, List.flatMap_append]
  simp
theorem keysIn_snoc (d : RDom) (k : Nat) (ls : List Lab) {j : Nat} (hj : j < ls.length) : keysIn d k ls (j + 1) = putB (keysIn d k ls j) (ls[j]'hj).key := by
  unfold keysIn
  rw [List.take_succ_eq_append_getElem hj, List.map_append]
  exact putAll_snoc _ _ _
theorem flat_len' {α β : Type} (f : α → List β) (k : Nat) : ∀ l : List α, (∀ x ∈ l, (f x).length ≤ k) → (l.flatMap f).length ≤ l.length * k
  | [], _ => by simp
  | a :: r, h => by
    rw [List.flatMap_cons, List.length_append, List.length_cons, Nat.add_mul]
    have h1 := h a List.mem_cons_self
    have h2 := flat_len' f k r (fun x hx => h x (List.mem_cons_of_mem _ hx))
    omega
theorem keysTo_length {d : RDom} (Z : Sized d) (k : Nat) : (keysTo d k).length ≤ 16384 := by
  have h1 := putAll_length ((d.nodes.take k).flatMap (fun x => x.labels.map Lab.key)) []
  have h2 := flat_len' (fun x : RNode => x.labels.map Lab.key) 32 (d.nodes.take k) (fun x hx => by rw [List.length_map]; exact Z.nl x (List.mem_of_mem_take hx))
  have h3 := Z.n
  rw [List.length_take] at h2
  unfold keysTo
  simp only [List.length_nil] at h1
  omega
theorem keysIn_length {d : RDom} (Z : Sized d) (k : Nat) (ls : List Lab) (h : ls.length ≤ 32) (j : Nat) : (keysIn d k ls j).length ≤ 16416 := by
  have h1 := putAll_length ((ls.take j).map Lab.key) (keysTo d k)
  have h2 := keysTo_length Z k
  rw [List.length_map, List.length_take] at h1
  unfold keysIn
  omega
set_option maxRecDepth 100000 in
set_option maxHeartbeats 4000000 in
theorem rkeys_k (R : Ending → World → Prop) (w : World) (ok : Nat → Prop) (d : RDom) (cs : List Value) (hok : ∀ k, ok k → k < w.heap.size) (hd : rdomK w ok d cs) (Z : Sized d)
    (hR : ∀ v' w', Below w.heap.size w w' → SlK strsK 1 w' (fun k => w.heap.size ≤ k) v' (rKeysL d) → R (.returned v') w') :
    Calls Tryz.prog 62 #[.agg cs.toArray] w R := by
  obtain ⟨vn, vp, rfl, hn, hp⟩ := hd
  have hB : Below w.heap.size w (w.alloc (.cells #[vn, vp] 29)) := Below.alloc (Below.refl _ _) (Nat.le_refl _) _
  have q0 : (w.alloc (.cells #[vn, vp] 29)).cell? ⟨w.heap.size, 0, none⟩ = some vn := cell_new rfl
  have HR := Lib.hid hR
  have HN := Lib.hid (hn.below rnodeOk hB hok)
  obtain ⟨A, c, e, hlc, _⟩ := hn.form
  subst e
  obtain ⟨A2, c2, e2, hlc2, _⟩ := hp.form
  subst e2
  have HOK := Lib.hid (show ∀ k, ok k → k < (w.alloc (.cells #[.slice A d.nodes.length c, .slice A2 d.pods.length c2] 29)).heap.size from fun k h => by have := hok k h; simp; omega)
  have HZ := Lib.hid Z
  have hzn := Z.n
  clear hR hn hp hok Z
  go_enter Tryz.func62, Tryz.ntmps62
  go_wp2_with fail
  generalize hW0 : w.alloc (.cells #[.slice A d.nodes.length c, .slice A2 d.pods.length c2] 29) = w0 at *
  clear hW0
  go_loopw [3, 4] (fun v i wr => ∃ k : Nat, k ≤ d.nodes.length ∧ i = .int .i64 k ∧ Below w0.heap.size w0 wr ∧ SlK strsK 1 wr (fun j => w0.heap.size ≤ j ∧ j < wr.heap.size) v (keysTo d k)) (fun _ i _ => d.nodes.length - (intOf i).toNat)
  case atStart => exact ⟨0, Nat.zero_le _, rfl, Below.refl _ _, SlK.nil⟩
  case round =>
    obtain ⟨k, hk, rfl, hBr, hO⟩ := hrel
    have q0' := (Mod.of_below hBr).cell' q0 (fun h => h)
    have hsr := hBr.size
    by_cases hkl : k < d.nodes.length
    · have hn2 := HN.out.below rnodeOk hBr HOK.out
      obtain ⟨b, off, c', he, _, _, hbk, hbl, hce⟩ := hn2.addr (by omega)
      simp only [Value.slice.injEq] at he
      obtain ⟨rfl, -, rfl⟩ := he
      obtain ⟨v1, c0, c1, hv1⟩ := rnode_cells hce k hkl
      have hxl : (d.nodes[k]'hkl).labels.length ≤ 32 := HZ.out.nl _ (List.getElem_mem hkl)
      have hall := keysIn_all d hkl
      obtain ⟨ls, hls⟩ : ∃ ls, (d.nodes[k]'hkl).labels = ls := ⟨_, rfl⟩
      rw [hls] at hv1 hxl hall
      have HALL := Lib.hid hall
      obtain ⟨A1, c1', e1, hl1, _⟩ := hv1.form
      subst e1
      have HV1 := Lib.hid hv1
      have HBR := Lib.hid hBr
      have HO := Lib.hid hO
      clear hce hn2 hv1 hBr hO hls hall
      go_wp2_with fail
      obtain ⟨w5, e5⟩ : ∃ W, W = wr := ⟨_, rfl⟩
      subst e5
      go_loopw [3, 5] (fun v i wr => ∃ j : Nat, j ≤ ls.length ∧ i = .int .i64 j ∧ Below w5.heap.size w5 wr ∧ SlK strsK 1 wr (fun j => w0.heap.size ≤ j ∧ j < wr.heap.size) v (keysIn d k ls j)) (fun _ i _ => ls.length - (intOf i).toNat)
      case atStart => exact ⟨0, Nat.zero_le _, rfl, Below.refl _ _, HO.out⟩
      case round =>
        obtain ⟨j, hj, rfl, hBt, hOt⟩ := hrel
        have hst := hBt.size
        have z0 := (Mod.of_below hBt).cell' q0' (fun h => h)
        have z1 := (Mod.of_below hBt).cell' c1 (fun h => h)
        have hkl2 := keysIn_length HZ.out k ls hxl j
        by_cases hjl : j < ls.length
        · have hv2 := HV1.out.below labOk hBt (fun i hi => Nat.lt_of_lt_of_le (HOK.out i hi) hsr)
          obtain ⟨b2, off2, c2', he2, _, _, hbk2, hbl2, hce2⟩ := hv2.addr (by omega)
          simp only [Value.slice.injEq] at he2
          obtain ⟨rfl, -, rfl⟩ := he2
          obtain ⟨d0, d1⟩ := lab_cells hce2 j hjl
          have hsn := keysIn_snoc d k ls hjl
          obtain ⟨ky, hky⟩ : ∃ ky, (ls[j]'hjl).key = ky := ⟨_, rfl⟩
          rw [hky] at d0 hsn
          have HSN := Lib.hid hsn
          have HBT := Lib.hid hBt
          have HOT := Lib.hid hOt
          clear hce2 hv2 hsn hBt hOt hky d1
          go_wp2_with fail
          refine put_k _ _ (fun i => w0.heap.size ≤ i ∧ i < wr.heap.size) (keysIn d k ls j) ky _ (fun i hi => hi.2) HOT.out (by omega) ?_
          intro v4 w4 g4 hs4
          have HB4 := Lib.hid (HBT.out.trans (g4.mono HBT.out.size))
          have HS4 := Lib.hid (SlK.mono strOk (SlK.bnd strOk hs4) (fun i hi => (⟨hi.1.elim (fun h => h.1) (fun h => by omega), hi.2⟩ : w0.heap.size ≤ i ∧ i < w4.heap.size)))
          clear g4 hs4
          go_wp2_with fail
          go_roundw
          case rel => exact ⟨j + 1, by omega, by go_num, HB4.out, by rw [HSN.out]; exact HS4.out⟩
          case measure => simp [intOf]; omega
        · obtain rfl : j = ls.length := by omega
          rw [HALL.out] at hOt
          have HBT := Lib.hid (HBR.out.trans (hBt.mono hsr))
          have HOT := Lib.hid hOt
          clear hBt hOt
          go_wp2_with fail
          go_roundw
          case rel => exact ⟨k + 1, by omega, by go_num, HBT.out, HOT.out⟩
          case measure => simp [intOf]; omega
    · obtain rfl : k = d.nodes.length := by omega
      have hv := HR.out u3 wr (hB.trans (hBr.mono hB.size)) (SlK.mono strOk (by unfold rKeysL; unfold keysTo at hO; rwa [List.take_length] at hO) (fun j (hj : w0.heap.size ≤ j ∧ j < wr.heap.size) => Nat.le_trans hB.size hj.1))
      clear hO hBr
      go_wp2_with fail
      exact hv
def valTo (d : RDom) (key : ByteArray) (k : Nat) : List ByteArray := putAll [] ((d.nodes.take k).filterMap (fun x => getB x.labels key))
theorem valTo_snoc (d : RDom) (key : ByteArray) {k : Nat} (hk : k < d.nodes.length) : valTo d key (k + 1) = match getB (d.nodes[k]'hk).labels key with | some v => putB (valTo d key k) v | none => valTo d key k := by
  unfold valTo
  rw [List.take_succ_eq_append_getElem hk, List.filterMap_append]
  cases h : getB (d.nodes[k]'hk).labels key with
  | none => simp [h]
  | some v =>
    simp only [List.filterMap_cons, h, List.filterMap_nil]
    exact putAll_snoc _ _ _
theorem valTo_length {d : RDom} (Z : Sized d) (key : ByteArray) (k : Nat) : (valTo d key k).length ≤ 512 := by
  have h1 := putAll_length ((d.nodes.take k).filterMap (fun x => getB x.labels key)) []
  have h2 := List.length_filterMap_le (fun x : RNode => getB x.labels key) (d.nodes.take k)
  have h3 := Z.n
  rw [List.length_take] at h2
  unfold valTo
  simp only [List.length_nil] at h1
  omega
theorem infoRRow : (Tryz.prog.info? 273).map (fun i => (i.zero, i.size, i.bytes)) = some (some (.agg #[.string ⟨#[]⟩, .int .i64 0]), 2, 24) := by kernel_rfl
set_option maxRecDepth 100000 in
set_option maxHeartbeats 4000000 in
theorem rvalues_k (R : Ending → World → Prop) (w : World) (ok : Nat → Prop) (d : RDom) (key : ByteArray) (cs : List Value) (hok : ∀ k, ok k → k < w.heap.size) (hd : rdomK w ok d cs) (Z : Sized d)
    (hR : ∀ v' w', Below w.heap.size w w' → SlK rrowK 2 w' (fun k => w.heap.size ≤ k) v' (rValuesL d key) → R (.returned v') w') :
    Calls Tryz.prog 64 #[.agg cs.toArray, .string key] w R := by
  obtain ⟨vn, vp, rfl, hn, hp⟩ := hd
  have hB : Below w.heap.size w (w.alloc (.cells #[vn, vp] 29)) := Below.alloc (Below.refl _ _) (Nat.le_refl _) _
  have q0 : (w.alloc (.cells #[vn, vp] 29)).cell? ⟨w.heap.size, 0, none⟩ = some vn := cell_new rfl
  have q1 : (w.alloc (.cells #[vn, vp] 29)).cell? ⟨w.heap.size, 1, none⟩ = some vp := cell_new rfl
  have HR := Lib.hid hR
  have HN := Lib.hid (hn.below rnodeOk hB hok)
  have HP := Lib.hid (hp.below rpodOk hB hok)
  obtain ⟨A, c, e, hlc, _⟩ := hn.form
  subst e
  obtain ⟨A2, c2, e2, hlc2, _⟩ := hp.form
  subst e2
  have HOK := Lib.hid (show ∀ k, ok k → k < (w.alloc (.cells #[.slice A d.nodes.length c, .slice A2 d.pods.length c2] 29)).heap.size from fun k h => by have := hok k h; simp; omega)
  have HZ := Lib.hid Z
  have hzn := Z.n
  have hzp := Z.p
  clear hR hn hp hok Z
  go_enter Tryz.func64, Tryz.ntmps64
  go_upto_block 0 with fail
  generalize hW0 : w.alloc (.cells #[.slice A d.nodes.length c, .slice A2 d.pods.length c2] 29) = w0 at *
  clear hW0
  go_cut [5] (fun v wr => Below w0.heap.size w0 wr ∧ SlK strsK 1 wr (fun j => w0.heap.size ≤ j ∧ j < wr.heap.size) v (rValL d key))
  case first =>
    go_wp2
    go_loopw [5, 6] (fun v i wr => ∃ k : Nat, k ≤ d.nodes.length ∧ i = .int .i64 k ∧ Below w0.heap.size w0 wr ∧ SlK strsK 1 wr (fun j => w0.heap.size ≤ j ∧ j < wr.heap.size) v (valTo d key k)) (fun _ i _ => d.nodes.length - (intOf i).toNat)
    case atStart => exact ⟨0, Nat.zero_le _, rfl, Below.refl _ _, SlK.nil⟩
    case round =>
      obtain ⟨k, hk, rfl, hBr, hO⟩ := hrel
      have q0' := (Mod.of_below hBr).cell' q0 (fun h => h)
      have hsr := hBr.size
      by_cases hkl : k < d.nodes.length
      · have hn2 := HN.out.below rnodeOk hBr HOK.out
        obtain ⟨b, off, c', he, _, _, hbk, hbl, hce⟩ := hn2.addr (by omega)
        simp only [Value.slice.injEq] at he
        obtain ⟨rfl, -, rfl⟩ := he
        obtain ⟨v1, c0, c1, hv1⟩ := rnode_cells hce k hkl
        have hxl : (d.nodes[k]'hkl).labels.length ≤ 32 := HZ.out.nl _ (List.getElem_mem hkl)
        have hsn := valTo_snoc d key hkl
        have hvl := valTo_length HZ.out key k
        obtain ⟨ls, hls⟩ : ∃ ls, (d.nodes[k]'hkl).labels = ls := ⟨_, rfl⟩
        rw [hls] at hv1 hxl hsn
        have HV1 := Lib.hid hv1
        have HBR := Lib.hid hBr
        have HO := Lib.hid hO
        cases hg : getB ls key with
        | none =>
          have HG := Lib.hid (show (getB ls key).getD ⟨#[]⟩ = ⟨#[]⟩ ∧ (getB ls key).isSome = false by rw [hg]; exact ⟨rfl, rfl⟩)
          rw [hg] at hsn
          have HSN := Lib.hid hsn
          clear hce hn2 hv1 hBr hO hls hsn hg
          go_wp2_with fail
          refine rget_t _ _ ok v1 ls key _ _ HG.out (fun j hj => Nat.lt_of_lt_of_le (HOK.out j hj) hsr) HV1.out (by omega) ?_
          intro w3 g3
          have HB3 := Lib.hid (HBR.out.trans (g3.mono hsr))
          have HO3 := Lib.hid (SlK.mono strOk (SlK.bnd strOk (HO.out.below strOk g3 (fun i hi => hi.2))) (fun i hi => (⟨hi.1.1, hi.2⟩ : w0.heap.size ≤ i ∧ i < w3.heap.size)))
          clear g3
          go_wp2_with fail
          go_roundw
          case rel => exact ⟨k + 1, by omega, by go_num, HB3.out, by rw [HSN.out]; exact HO3.out⟩
          case measure => simp [intOf]; omega
        | some u =>
          have HG := Lib.hid (show (getB ls key).getD ⟨#[]⟩ = u ∧ (getB ls key).isSome = true by rw [hg]; exact ⟨rfl, rfl⟩)
          rw [hg] at hsn
          have HSN := Lib.hid hsn
          clear hce hn2 hv1 hBr hO hls hsn hg
          go_wp2_with fail
          refine rget_t _ _ ok v1 ls key _ _ HG.out (fun j hj => Nat.lt_of_lt_of_le (HOK.out j hj) hsr) HV1.out (by omega) ?_
          intro w3 g3
          have hs3 := g3.size
          have HB3 := Lib.hid (HBR.out.trans (g3.mono hsr))
          have HO3 := Lib.hid (SlK.mono strOk (SlK.bnd strOk (HO.out.below strOk g3 (fun i hi => hi.2))) (fun i hi => (⟨hi.1.1, hi.2⟩ : w0.heap.size ≤ i ∧ i < w3.heap.size)))
          clear g3
          go_wp2_with fail
          refine put_k _ _ (fun i => w0.heap.size ≤ i ∧ i < w3.heap.size) (valTo d key k) u _ (fun i hi => hi.2) HO3.out (by omega) ?_
          intro v4 w4 g4 hs4
          have HB4 := Lib.hid (HB3.out.trans (g4.mono HB3.out.size))
          have HS4 := Lib.hid (SlK.mono strOk (SlK.bnd strOk hs4) (fun i hi => (⟨hi.1.elim (fun h => h.1) (fun h => by omega), hi.2⟩ : w0.heap.size ≤ i ∧ i < w4.heap.size)))
          clear g4 hs4
          go_wp2_with fail
          go_roundw
          case rel => exact ⟨k + 1, by omega, by go_num, HB4.out, by rw [HSN.out]; exact HS4.out⟩
          case measure => simp [intOf]; omega
      · obtain rfl : k = d.nodes.length := by omega
        have hv : SlK strsK 1 wr (fun j => w0.heap.size ≤ j ∧ j < wr.heap.size) u5 (rValL d key) := by unfold rValL; unfold valTo at hO; rwa [List.take_length] at hO
        clear hO
        go_wp2
        go_meet
        exact ⟨hBr, hv⟩
  case rest =>
    obtain ⟨hB1, hV⟩ := hcut
    have hvl : (rValL d key).length ≤ 512 := by have := valTo_length HZ.out key d.nodes.length; unfold valTo at this; rwa [List.take_length] at this
    obtain ⟨vs, hvs⟩ : ∃ vs, rValL d key = vs := ⟨_, rfl⟩
    rw [hvs] at hV hvl
    have HVS := Lib.hid hvs
    obtain ⟨A3, c3, e3, hl3, _⟩ := hV.form
    subst e3
    have q0w := (Mod.of_below hB1).cell' q0 (fun h => h)
    have q1w := (Mod.of_below hB1).cell' q1 (fun h => h)
    have HB1 := Lib.hid hB1
    have HV := Lib.hid hV
    have hs1 := hB1.size
    clear hvs hB1 hV q0 q1
    go_wp2_with fail
    go_loopw [9, 10] (fun v i wr => ∃ k : Nat, k ≤ vs.length ∧ i = .int .i64 k ∧ Below wc.heap.size wc wr ∧ OwnK rrowK 2 273 wr wc.heap.size (fun _ => False) v ((vs.take k).map (rRowV d key))) (fun _ i _ => vs.length - (intOf i).toNat)
    case atStart => exact ⟨0, Nat.zero_le _, rfl, Below.refl _ _, .nil (fun _ h => h.elim)⟩
    case round =>
      obtain ⟨k, hk, rfl, hBr, hO⟩ := hrel
      have hsr := hBr.size
      by_cases hkl : k < vs.length
      · have hv2 := HV.out.below strOk hBr (fun i hi => hi.2)
        obtain ⟨b, off, c', he, _, _, hbk, hbl, hce⟩ := hv2.addr (by omega)
        simp only [Value.slice.injEq] at he
        obtain ⟨rfl, -, rfl⟩ := he
        obtain ⟨cs1, hc1, _, hc2⟩ := hce k hkl
        cases hc1
        have c0 : wr.cell? ⟨b, off + k, none⟩ = some (.string (vs[k]'hkl)) := by simpa using hc2 0 _ rfl
        have hsn : (vs.take (k + 1)).map (rRowV d key) = (vs.take k).map (rRowV d key) ++ [rRowV d key (vs[k]'hkl)] := by rw [List.take_succ_eq_append_getElem hkl, List.map_append]; rfl
        obtain ⟨u, hu⟩ : ∃ u, vs[k]'hkl = u := ⟨_, rfl⟩
        rw [hu] at c0 hsn
        have q0r := (Mod.of_below hBr).cell' q0w (fun h => h)
        have q1r := (Mod.of_below hBr).cell' q1w (fun h => h)
        have HSN := Lib.hid hsn
        have HBR := Lib.hid hBr
        have HO := Lib.hid hO
        have hB1r := HB1.out.trans (hBr.mono hs1)
        have HRD := Lib.hid (show rdomK wr ok d [.slice A d.nodes.length c, .slice A2 d.pods.length c2] from ⟨_, _, rfl, HN.out.below rnodeOk hB1r HOK.out, HP.out.below rpodOk hB1r HOK.out⟩)
        have HOKr := Lib.hid (show ∀ j, ok j → j < wr.heap.size from fun j hj => Nat.lt_of_lt_of_le (HOK.out j hj) hB1r.size)
        have HK := Lib.hid (show ∀ w', Below wr.heap.size wr w' → Below wr.heap.size wr w' ∧ w'.cell? ⟨w.heap.size, 0, none⟩ = some (.slice A d.nodes.length c) ∧ w'.cell? ⟨w.heap.size, 1, none⟩ = some (.slice A2 d.pods.length c2) ∧ w'.cell? ⟨b, off + k, none⟩ = some (.string u) from
          fun w' hw => ⟨hw, (Mod.of_below hw).cell' q0r (fun h => h), (Mod.of_below hw).cell' q1r (fun h => h), (Mod.of_below hw).cell' c0 (fun h => h)⟩)
        clear hce hc2 hv2 hsn hBr hO hu hB1r
        go_wp2_with fail
        go_region_held3 (fun w' => Below wr.heap.size wr w' ∧ w'.cell? ⟨w.heap.size, 0, none⟩ = some (.slice A d.nodes.length c) ∧ w'.cell? ⟨w.heap.size, 1, none⟩ = some (.slice A2 d.pods.length c2) ∧ w'.cell? ⟨b, off + k, none⟩ = some (.string u))
          (first
          | exact HK.out _ (Below.refl _ wr).drew
          | exact HK.out _ y1)
          (first
          | (go_at_call 147; refine rnodes_k _ _ ok d key u [_, _] HOKr.out HRD.out (by omega) (fun x hx => by have := HZ.out.nl x hx; omega) ?_; intro vq w3 g3 hq3
             have y1 : Below wr.heap.size wr w3 := Below.of_drew g3))
        all_goals (
          obtain ⟨A5, c5, e5, _, _⟩ := hq3.form
          subst e5
          have c0' := (Mod.of_below y1).cell' c0 (fun h => h)
          have hqn : (rNodesL d.nodes key u).length ≤ 512 := Nat.le_trans (rNodesL_le _ _ _) hzn
          have hB3 := HBR.out.trans (y1.mono hsr)
          have hO3 := HO.out.move rrowOk (w' := w3) (fun j hj _ => y1.block j hj) y1.size
          have HB3 := Lib.hid hB3
          have hlen : ((vs.take k).map (rRowV d key)).length = k := by rw [List.length_map, List.length_take]; omega
          clear g3 hq3 y1 hB3
          go_wp2_with (at_builtin; refine append_k rrowOk rfl _ _ 146 273 (.agg #[.string ⟨#[]⟩, .int .i64 0]) 24 wc.heap.size (fun _ => False) rfl Tryz.underlying146 infoRRow rfl (by decide) (by decide) u9 ((vs.take k).map (rRowV d key)) (rRowV d key u) #[.string u, .int .i64 ((rNodesL d.nodes key u).length : Nat)] rfl rfl ?d1 hO3 ?d2 HB3.out.size ?d3 ?_)
          case d1 => simp [Value.oneCell']
          case d2 => rfl
          case d3 => rw [hlen]; omega
          intro v4 w4 hO4 hg4 _
          have hB4 := HB3.out.grown hg4 HB3.out.size (fun k h => (hO3.own k h).1)
          have HO4 := Lib.hid hO4
          have HB4 := Lib.hid hB4
          clear hO4 hg4 hB4 hO3 hlen
          go_wp2_with fail
          go_roundw
          case rel => exact ⟨k + 1, by omega, by go_num, HB4.out, by rw [HSN.out, List.map_take]; exact HO4.out⟩
          case measure => simp [intOf]; omega)
      · obtain rfl : k = vs.length := by omega
        rw [List.take_length] at hO
        have hv := HR.out u9 wr (hB.trans ((HB1.out.trans (hBr.mono hs1)).mono hB.size)) (by unfold rValuesL; rw [HVS.out]; exact SlK.mono rrowOk (hO.slk rrowOk) (fun j hj => hj.elim (fun h => h.elim) (fun h => Nat.le_trans hB.size (Nat.le_trans hs1 (hO.own j h).1))))
        clear hO hBr
        go_wp2_with fail
        exact hv
end Go.Proofs.YtmenipaibjifiaaGreatDoor

namespace Go.Proofs.YtmenipaibjifiaaGreatDoor
open Go.RowKit Go.BigFrame

theorem filter_snoc {α : Type} (p : α → Bool) (l : List α) {k : Nat} (hk : k < l.length) : ((l.take (k + 1)).filter p).length = ((l.take k).filter p).length + (if p (l[k]'hk) = true then 1 else 0) := by
  rw [List.take_succ_eq_append_getElem hk, List.filter_append, List.length_append]
  by_cases h : p (l[k]'hk) = true <;> simp [h]
theorem filter_take_le {α : Type} (p : α → Bool) (l : List α) (k : Nat) : ((l.take k).filter p).length ≤ l.length := by
  have h1 := List.length_filter_le p (l.take k)
  rw [List.length_take] at h1
  omega
theorem rPodsL_slot {d : RDom} {key value : ByteArray} {s : Int} (h : s ∈ rPodsL d d.pods key value) : ∃ x ∈ d.pods, x.slot = s := by
  unfold rPodsL at h
  obtain ⟨x, hx, rfl⟩ := List.mem_map.1 h
  exact ⟨x, (List.mem_filter.1 hx).1, rfl⟩
theorem idx_pod {d : RDom} {s : Int} (h : ∃ x ∈ d.pods, x.slot = s) : ∃ (k : Nat) (hk : k < d.pods.length), rPodAt d s = some (d.pods[k]'hk) ∧ idxBy (fun x : RPod => decide (x.slot = s)) d.pods = k := by
  rcases idx_find (fun x : RPod => decide (x.slot = s)) d.pods with ⟨h1, _⟩ | ⟨k, hk, h1, h2⟩
  · obtain ⟨x, hx, e⟩ := h
    rw [List.find?_eq_none] at h1
    exact absurd (by simpa using e) (h1 x hx)
  · exact ⟨k, hk, h1, h2⟩
set_option maxRecDepth 100000 in
set_option maxHeartbeats 4000000 in
theorem rcount_k (R : Ending → World → Prop) (w : World) (ok : Nat → Prop) (d : RDom) (key value pk pv : ByteArray) (cs : List Value) (hok : ∀ k, ok k → k < w.heap.size) (hd : rdomK w ok d cs) (Z : Sized d)
    (hR : ∀ w', Below w.heap.size w w' → R (.returned (.int .i64 (rCountN d key value pk pv : Nat))) w') :
    Calls Tryz.prog 66 #[.agg cs.toArray, .string key, .string value, .string pk, .string pv] w R := by
  obtain ⟨vn, vp, rfl, hn, hp⟩ := hd
  have hB : Below w.heap.size w (w.alloc (.cells #[vn, vp] 29)) := Below.alloc (Below.refl _ _) (Nat.le_refl _) _
  have q0 : (w.alloc (.cells #[vn, vp] 29)).cell? ⟨w.heap.size, 0, none⟩ = some vn := cell_new rfl
  have q1 : (w.alloc (.cells #[vn, vp] 29)).cell? ⟨w.heap.size, 1, none⟩ = some vp := cell_new rfl
  have HR := Lib.hid hR
  have HN := Lib.hid (hn.below rnodeOk hB hok)
  have HP := Lib.hid (hp.below rpodOk hB hok)
  obtain ⟨A, c, e, hlc, _⟩ := hn.form
  subst e
  obtain ⟨A2, c2, e2, hlc2, _⟩ := hp.form
  subst e2
  have HOK := Lib.hid (show ∀ k, ok k → k < (w.alloc (.cells #[.slice A d.nodes.length c, .slice A2 d.pods.length c2] 29)).heap.size from fun k h => by have := hok k h; simp; omega)
  have HZ := Lib.hid Z
  have hzn := Z.n
  have hzp := Z.p
  clear hR hn hp hok Z
  go_enter Tryz.func66, Tryz.ntmps66
  go_wp2_with fail
  generalize hW0 : w.alloc (.cells #[.slice A d.nodes.length c, .slice A2 d.pods.length c2] 29) = w0 at *
  clear hW0
  refine rpods_k _ _ ok d key value [_, _] HOK.out ⟨_, _, rfl, HN.out, HP.out⟩ (by omega) (by omega) (fun x hx => by have := HZ.out.nl x hx; omega) ?_
  intro vl w1 g1 hl1
  obtain ⟨sl, hsl⟩ : ∃ sl, rPodsL d d.pods key value = sl := ⟨_, rfl⟩
  have hmem : ∀ s, s ∈ sl → ∃ x ∈ d.pods, x.slot = s := fun s hs => rPodsL_slot (by rw [hsl]; exact hs)
  have hsll : sl.length ≤ 2048 := by have := rPodsL_le d d.pods key value; rw [hsl] at this; omega
  have hRv : ∀ w', Below w.heap.size w w' → R (.returned (.int .i64 (((sl.filter (podHas d pk pv)).length : Nat) : Int))) w' := fun w' h => by have := HR.out w' h; unfold rCountN at this; rwa [hsl] at this
  have HRV := Lib.hid hRv
  have HMEM := Lib.hid hmem
  rw [hsl] at hl1
  obtain ⟨A3, c3, e3, hl3, _⟩ := hl1.form
  subst e3
  have HL1 := Lib.hid (SlK.bnd intOk hl1)
  have q0w := (Mod.of_below g1).cell' q0 (fun h => h)
  have q1w := (Mod.of_below g1).cell' q1 (fun h => h)
  have HG1 := Lib.hid g1
  have hs1 := g1.size
  clear hl1 hsl g1 q0 q1 hRv hmem HR
  go_wp2_with fail
  go_loopw [11, 13] (fun v i wr => ∃ k : Nat, k ≤ sl.length ∧ i = .int .i64 k ∧ v = .int .i64 (((sl.take k).filter (podHas d pk pv)).length : Nat) ∧ Below w1.heap.size w1 wr) (fun _ i _ => sl.length - (intOf i).toNat)
  case atStart => exact ⟨0, Nat.zero_le _, rfl, rfl, Below.refl _ _⟩
  case round =>
    obtain ⟨k, hk, rfl, rfl, hBr⟩ := hrel
    have hsr := hBr.size
    have hcl := filter_take_le (podHas d pk pv) sl k
    by_cases hkl : k < sl.length
    · have hv2 := HL1.out.below intOk hBr (fun i hi => hi.2)
      obtain ⟨b, off, c', he, _, _, hbk, hbl, hce⟩ := hv2.addr (by omega)
      simp only [Value.slice.injEq] at he
      obtain ⟨rfl, -, rfl⟩ := he
      obtain ⟨cs1, hc1, _, hc2⟩ := hce k hkl
      cases hc1
      have c0 : wr.cell? ⟨b, off + k, none⟩ = some (.int .i64 (sl[k]'hkl)) := by simpa using hc2 0 _ rfl
      have hsn := filter_snoc (podHas d pk pv) sl hkl
      obtain ⟨kp, hkp, hp1, hp2⟩ := idx_pod (HMEM.out _ (List.getElem_mem hkl))
      obtain ⟨u, hu⟩ : ∃ u, sl[k]'hkl = u := ⟨_, rfl⟩
      rw [hu] at c0 hsn hp1 hp2
      have hpe : podHas d pk pv u = decide (getB (d.pods[kp]'hkp).labels pk = some pv) := by unfold podHas; rw [hp1]; rfl
      rw [hpe] at hsn
      have hB1r := HG1.out.trans (hBr.mono hs1)
      have hpr := HP.out.below rpodOk hB1r HOK.out
      obtain ⟨b2, off2, c2', he2, _, _, hbk2, hbl2, hce2⟩ := hpr.addr (by omega)
      simp only [Value.slice.injEq] at he2
      obtain ⟨rfl, -, rfl⟩ := he2
      obtain ⟨v1, _, _, d2, hv1⟩ := rpod_cells hce2 kp hkp
      have hxl : (d.pods[kp]'hkp).labels.length ≤ 32 := HZ.out.pl _ (List.getElem_mem hkp)
      obtain ⟨ls, hls⟩ : ∃ ls, (d.pods[kp]'hkp).labels = ls := ⟨_, rfl⟩
      rw [hls] at hv1 hxl hsn
      have q0r := (Mod.of_below hBr).cell' q0w (fun h => h)
      have q1r := (Mod.of_below hBr).cell' q1w (fun h => h)
      have HSN := Lib.hid hsn
      have HV1 := Lib.hid hv1
      have HP2 := Lib.hid hp2
      have HBR := Lib.hid hBr
      have HRD := Lib.hid (show rdomK wr ok d [.slice A d.nodes.length c, .slice (some ⟨b2, off2, none⟩) d.pods.length c2] from ⟨_, _, rfl, HN.out.below rnodeOk hB1r HOK.out, hpr⟩)
      have HOKr := Lib.hid (show ∀ j, ok j → j < wr.heap.size from fun j hj => Nat.lt_of_lt_of_le (HOK.out j hj) hB1r.size)
      have HK := Lib.hid (show ∀ w', Below wr.heap.size wr w' → Below wr.heap.size wr w' ∧ w'.cell? ⟨w.heap.size, 0, none⟩ = some (.slice A d.nodes.length c) ∧ w'.cell? ⟨w.heap.size, 1, none⟩ = some (.slice (some ⟨b2, off2, none⟩) d.pods.length c2) ∧ w'.cell? ⟨b, off + k, none⟩ = some (.int .i64 u) from
        fun w' hw => ⟨hw, (Mod.of_below hw).cell' q0r (fun h => h), (Mod.of_below hw).cell' q1r (fun h => h), (Mod.of_below hw).cell' c0 (fun h => h)⟩)
      clear hce hc2 hv2 hsn hBr hu hB1r hpr hce2 hv1 hp1 hp2 hpe hls
      go_wp2_with fail
      go_region_held3 (fun w' => Below wr.heap.size wr w' ∧ w'.cell? ⟨w.heap.size, 0, none⟩ = some (.slice A d.nodes.length c) ∧ w'.cell? ⟨w.heap.size, 1, none⟩ = some (.slice (some ⟨b2, off2, none⟩) d.pods.length c2) ∧ w'.cell? ⟨b, off + k, none⟩ = some (.int .i64 u))
        (first
        | exact HK.out _ (Below.refl _ wr).drew
        | exact HK.out _ y1)
        (first
        | (go_at_call 137; refine rpod_k _ _ ok d u [_, _] HOKr.out HRD.out (by omega) ?_; intro w3 g3; rw [HP2.out]
           have y1 : Below wr.heap.size wr w3 := Below.of_drew g3))
      all_goals (
        have hs3 := y1.size
        have q1'' := (Mod.of_below y1).cell' q1r (fun h => h)
        have d2' := (Mod.of_below y1).cell' d2 (fun h => h)
        have HY := Lib.hid y1
        clear g3 y1
        cases hg : getB ls pk with
        | none =>
          have HG := Lib.hid (show (getB ls pk).getD ⟨#[]⟩ = ⟨#[]⟩ ∧ (getB ls pk).isSome = false by rw [hg]; exact ⟨rfl, rfl⟩)
          have HX := Lib.hid (show ((sl.take (k + 1)).filter (podHas d pk pv)).length = ((sl.take k).filter (podHas d pk pv)).length by rw [HSN.out, hg]; simp)
          clear hg
          go_wp2_with fail
          refine rget_t _ _ ok v1 ls pk _ _ HG.out (fun j hj => Nat.lt_of_lt_of_le (HOKr.out j hj) hs3) (HV1.out.below labOk HY.out HOKr.out) (by omega) ?_
          intro w4 g4
          have HB4 := Lib.hid (HBR.out.trans ((HY.out.trans (g4.mono hs3)).mono hsr))
          clear g4
          go_wp2_with fail
          go_roundw
          case rel => exact ⟨k + 1, by omega, by go_num, by rw [HX.out], HB4.out⟩
          case measure => simp [intOf]; omega
        | some z =>
          have HG := Lib.hid (show (getB ls pk).getD ⟨#[]⟩ = z ∧ (getB ls pk).isSome = true by rw [hg]; exact ⟨rfl, rfl⟩)
          cases he : (z.toList == pv.toList) with
          | false =>
            have HX := Lib.hid (show ((sl.take (k + 1)).filter (podHas d pk pv)).length = ((sl.take k).filter (podHas d pk pv)).length by rw [HSN.out, hg]; rw [ba_toList_beq] at he; simp at he; simp [he])
            clear hg
            go_wp2_with fail
            refine rget_t _ _ ok v1 ls pk _ _ HG.out (fun j hj => Nat.lt_of_lt_of_le (HOKr.out j hj) hs3) (HV1.out.below labOk HY.out HOKr.out) (by omega) ?_
            intro w4 g4
            have HB4 := Lib.hid (HBR.out.trans ((HY.out.trans (g4.mono hs3)).mono hsr))
            clear g4
            go_wp2_with fail
            go_roundw
            case rel => exact ⟨k + 1, by omega, by go_num, by rw [HX.out], HB4.out⟩
            case measure => simp [intOf]; omega
          | true =>
            have HX := Lib.hid (show ((sl.take (k + 1)).filter (podHas d pk pv)).length = ((sl.take k).filter (podHas d pk pv)).length + 1 by rw [HSN.out, hg]; rw [ba_toList_beq] at he; simp at he; simp [he])
            clear hg
            go_wp2_with fail
            refine rget_t _ _ ok v1 ls pk _ _ HG.out (fun j hj => Nat.lt_of_lt_of_le (HOKr.out j hj) hs3) (HV1.out.below labOk HY.out HOKr.out) (by omega) ?_
            intro w4 g4
            have HB4 := Lib.hid (HBR.out.trans ((HY.out.trans (g4.mono hs3)).mono hsr))
            clear g4
            go_wp2_with fail
            go_roundw
            case rel => exact ⟨k + 1, by omega, by go_num, by rw [HX.out]; go_num, HB4.out⟩
            case measure => simp [intOf]; omega)
    · obtain rfl : k = sl.length := by omega
      have hv := HRV.out wr (hB.trans ((HG1.out.trans (hBr.mono hs1)).mono hB.size))
      rw [List.take_length]
      clear hBr
      go_wp2_with fail
      exact hv
set_option maxRecDepth 100000 in
set_option maxHeartbeats 4000000 in
theorem rtally_k (R : Ending → World → Prop) (w : World) (ok : Nat → Prop) (d : RDom) (key : ByteArray) (vps : Value) (pods : List Int) (cs : List Value) (hok : ∀ k, ok k → k < w.heap.size) (hd : rdomK w ok d cs) (Z : Sized d)
    (hpd : SlK intsK 1 w ok vps pods) (hpl : pods.length ≤ 1073741824)
    (hR : ∀ v' w', Below w.heap.size w w' → SlK rrowK 2 w' (fun k => w.heap.size ≤ k) v' (rTallyL d key pods) → R (.returned v') w') :
    Calls Tryz.prog 67 #[.agg cs.toArray, .string key, vps] w R := by
  obtain ⟨Aq, cq, eq, hlq, _⟩ := hpd.form
  subst eq
  obtain ⟨vn, vp, rfl, hn, hp⟩ := hd
  have hB : Below w.heap.size w (w.alloc (.cells #[vn, vp] 29)) := Below.alloc (Below.refl _ _) (Nat.le_refl _) _
  have q0 : (w.alloc (.cells #[vn, vp] 29)).cell? ⟨w.heap.size, 0, none⟩ = some vn := cell_new rfl
  have q1 : (w.alloc (.cells #[vn, vp] 29)).cell? ⟨w.heap.size, 1, none⟩ = some vp := cell_new rfl
  have HR := Lib.hid hR
  have HN := Lib.hid (hn.below rnodeOk hB hok)
  have HP := Lib.hid (hp.below rpodOk hB hok)
  obtain ⟨A, c, e, hlc, _⟩ := hn.form
  subst e
  obtain ⟨A2, c2, e2, hlc2, _⟩ := hp.form
  subst e2
  have HOK := Lib.hid (show ∀ k, ok k → k < (w.alloc (.cells #[.slice A d.nodes.length c, .slice A2 d.pods.length c2] 29)).heap.size from fun k h => by have := hok k h; simp; omega)
  have HZ := Lib.hid Z
  have HPD := Lib.hid (hpd.below intOk hB hok)
  clear hpd
  have hzn := Z.n
  have hzp := Z.p
  clear hR hn hp hok Z
  go_enter Tryz.func67, Tryz.ntmps67
  go_wp2_with fail
  generalize hW0 : w.alloc (.cells #[.slice A d.nodes.length c, .slice A2 d.pods.length c2] 29) = w0 at *
  clear hW0
  refine rvalues_k _ _ ok d key [_, _] HOK.out ⟨_, _, rfl, HN.out, HP.out⟩ HZ.out ?_
  intro vl w1 g1 hl1
  obtain ⟨rs, hrs⟩ : ∃ rs, rValuesL d key = rs := ⟨_, rfl⟩
  have hrl : rs.length ≤ 512 := by
    have := valTo_length HZ.out key d.nodes.length
    unfold valTo at this
    rw [List.take_length] at this
    rw [← hrs]
    unfold rValuesL rValL
    rw [List.length_map]; exact this
  have hRv : ∀ v' w', Below w.heap.size w w' → SlK rrowK 2 w' (fun k => w.heap.size ≤ k) v' (rs.map (fun r => (⟨r.value, rNum d key pods r.value⟩ : RRow))) → R (.returned v') w' := fun v' w' h h2 => HR.out v' w' h (by unfold rTallyL; rw [hrs]; exact h2)
  have HRV := Lib.hid hRv
  rw [hrs] at hl1
  obtain ⟨A3, c3, e3, hl3, _⟩ := hl1.form
  subst e3
  have HL1 := Lib.hid (SlK.bnd rrowOk hl1)
  have q0w := (Mod.of_below g1).cell' q0 (fun h => h)
  have q1w := (Mod.of_below g1).cell' q1 (fun h => h)
  have HG1 := Lib.hid g1
  have hs1 := g1.size
  clear hl1 hrs g1 q0 q1 hRv HR
  go_wp2_with fail
  go_loopw [8, 9] (fun v i wr => ∃ k : Nat, k ≤ rs.length ∧ i = .int .i64 k ∧ Below w1.heap.size w1 wr ∧ OwnK rrowK 2 273 wr w1.heap.size (fun _ => False) v ((rs.take k).map (fun r => (⟨r.value, rNum d key pods r.value⟩ : RRow)))) (fun _ i _ => rs.length - (intOf i).toNat)
  case atStart => exact ⟨0, Nat.zero_le _, rfl, Below.refl _ _, .nil (fun _ h => h.elim)⟩
  case round =>
    obtain ⟨k, hk, rfl, hBr, hO⟩ := hrel
    have hsr := hBr.size
    by_cases hkl : k < rs.length
    · have hv2 := HL1.out.below rrowOk hBr (fun i hi => hi.2)
      obtain ⟨b, off, c', he, _, _, hbk, hbl, hce⟩ := hv2.addr (by omega)
      simp only [Value.slice.injEq] at he
      obtain ⟨rfl, -, rfl⟩ := he
      obtain ⟨cs1, hc1, _, hc2⟩ := hce k hkl
      cases hc1
      have c0 : wr.cell? ⟨b, off + k * 2, none⟩ = some (.string (rs[k]'hkl).value) := hc2 0 _ rfl
      have hsn : (rs.take (k + 1)).map (fun r => (⟨r.value, rNum d key pods r.value⟩ : RRow)) = (rs.take k).map (fun r => (⟨r.value, rNum d key pods r.value⟩ : RRow)) ++ [⟨(rs[k]'hkl).value, rNum d key pods (rs[k]'hkl).value⟩] := by rw [List.take_succ_eq_append_getElem hkl, List.map_append]; rfl
      obtain ⟨u, hu⟩ : ∃ u, (rs[k]'hkl).value = u := ⟨_, rfl⟩
      rw [hu] at c0 hsn
      have q0r := (Mod.of_below hBr).cell' q0w (fun h => h)
      have q1r := (Mod.of_below hBr).cell' q1w (fun h => h)
      have hB1r := HG1.out.trans (hBr.mono hs1)
      have HSN := Lib.hid hsn
      have HBR := Lib.hid hBr
      have HO := Lib.hid hO
      have HRD := Lib.hid (show rdomK wr ok d [.slice A d.nodes.length c, .slice A2 d.pods.length c2] from ⟨_, _, rfl, HN.out.below rnodeOk hB1r HOK.out, HP.out.below rpodOk hB1r HOK.out⟩)
      have HOKr := Lib.hid (show ∀ j, ok j → j < wr.heap.size from fun j hj => Nat.lt_of_lt_of_le (HOK.out j hj) hB1r.size)
      have HPDr := Lib.hid (HPD.out.below intOk hB1r HOK.out)
      have HK := Lib.hid (show ∀ w', Below wr.heap.size wr w' → Below wr.heap.size wr w' ∧ w'.cell? ⟨w.heap.size, 0, none⟩ = some (.slice A d.nodes.length c) ∧ w'.cell? ⟨w.heap.size, 1, none⟩ = some (.slice A2 d.pods.length c2) ∧ w'.cell? ⟨b, off + k * 2, none⟩ = some (.string u) from
        fun w' hw => ⟨hw, (Mod.of_below hw).cell' q0r (fun h => h), (Mod.of_below hw).cell' q1r (fun h => h), (Mod.of_below hw).cell' c0 (fun h => h)⟩)
      clear hce hc2 hv2 hsn hBr hO hu hB1r
      go_wp2_with fail
      go_region_held3 (fun w' => Below wr.heap.size wr w' ∧ w'.cell? ⟨w.heap.size, 0, none⟩ = some (.slice A d.nodes.length c) ∧ w'.cell? ⟨w.heap.size, 1, none⟩ = some (.slice A2 d.pods.length c2) ∧ w'.cell? ⟨b, off + k * 2, none⟩ = some (.string u))
        (first
        | exact HK.out _ (Below.refl _ wr).drew
        | exact HK.out _ y1)
        (first
        | (go_at_call 148; refine rpods_k _ _ ok d key u [_, _] HOKr.out HRD.out (by omega) (by omega) (fun x hx => by have := HZ.out.nl x hx; omega) ?_; intro vq w3 g3 hq3
           have y1 : Below wr.heap.size wr w3 := Below.of_drew g3))
      all_goals (
        obtain ⟨sl, hsl⟩ : ∃ sl, rPodsL d d.pods key u = sl := ⟨_, rfl⟩
        have hsll : sl.length ≤ 2048 := by have := rPodsL_le d d.pods key u; rw [hsl] at this; omega
        have hnum : (rNum d key pods u) = (sl.filter (isIn pods)).length := by unfold rNum; rw [hsl]
        have HNUM := Lib.hid hnum
        rw [hsl] at hq3
        obtain ⟨A5, c5, e5, _, _⟩ := hq3.form
        subst e5
        have HQ3 := Lib.hid (SlK.bnd intOk hq3)
        have HY := Lib.hid y1
        have hs3 := y1.size
        clear g3 hq3 y1 hsl hnum
        go_wp2_with fail
        obtain ⟨w5, e5⟩ : ∃ W, W = wr := ⟨_, rfl⟩
        subst e5
        go_loopw [11, 12] (fun v i wr => ∃ j : Nat, j ≤ sl.length ∧ i = .int .i64 j ∧ v = .int .i64 (((sl.take j).filter (isIn pods)).length : Nat) ∧ Below w3.heap.size w3 wr) (fun _ i _ => sl.length - (intOf i).toNat)
        case atStart => exact ⟨0, Nat.zero_le _, rfl, rfl, Below.refl _ _⟩
        case round =>
          obtain ⟨j, hj, rfl, rfl, hBt⟩ := hrel
          have hcl := filter_take_le (isIn pods) sl j
          have hst := hBt.size
          by_cases hjl : j < sl.length
          · have hv3 := HQ3.out.below intOk hBt (fun i hi => hi.2)
            obtain ⟨b5, off5, c5', he5, _, _, hbk5, hbl5, hce5⟩ := hv3.addr (by omega)
            simp only [Value.slice.injEq] at he5
            obtain ⟨rfl, -, rfl⟩ := he5
            obtain ⟨cs5, hc5, _, hc6⟩ := hce5 j hjl
            cases hc5
            have z0 : wr.cell? ⟨b5, off5 + j, none⟩ = some (.int .i64 (sl[j]'hjl)) := by simpa using hc6 0 _ rfl
            have hsn2 := filter_snoc (isIn pods) sl hjl
            obtain ⟨y, hy⟩ : ∃ y, sl[j]'hjl = y := ⟨_, rfl⟩
            rw [hy] at z0 hsn2
            have HSN2 := Lib.hid hsn2
            have HBT := Lib.hid hBt
            have hrt := HY.out.trans (hBt.mono hs3)
            have HOKt := Lib.hid (show ∀ i, ok i → i < wr.heap.size from fun i hi => Nat.lt_of_lt_of_le (HOKr.out i hi) hrt.size)
            have HPt := Lib.hid (HPDr.out.below intOk hrt HOKr.out)
            clear hce5 hc6 hv3 hsn2 hBt hy hrt
            cases hin : isIn pods y with
            | false =>
              have HX := Lib.hid (show ((sl.take (j + 1)).filter (isIn pods)).length = ((sl.take j).filter (isIn pods)).length by rw [HSN2.out, hin]; simp)
              have HIN := Lib.hid hin
              clear hin
              go_wp2_with fail
              refine rin_k _ _ ok pods y _ HOKt.out HPt.out hpl ?_
              intro w5 g5
              rw [show pods.any (fun x : Int => decide (x = y)) = false from HIN.out]
              have HB5 := Lib.hid (HBT.out.trans (g5.mono hst))
              clear g5
              go_wp2_with fail
              go_roundw
              case rel => exact ⟨j + 1, by omega, by go_num, by rw [HX.out], HB5.out⟩
              case measure => simp [intOf]; omega
            | true =>
              have HX := Lib.hid (show ((sl.take (j + 1)).filter (isIn pods)).length = ((sl.take j).filter (isIn pods)).length + 1 by rw [HSN2.out, hin]; simp)
              have HIN := Lib.hid hin
              clear hin
              go_wp2_with fail
              refine rin_k _ _ ok pods y _ HOKt.out HPt.out hpl ?_
              intro w5 g5
              rw [show pods.any (fun x : Int => decide (x = y)) = true from HIN.out]
              have HB5 := Lib.hid (HBT.out.trans (g5.mono hst))
              clear g5
              go_wp2_with fail
              go_roundw
              case rel => exact ⟨j + 1, by omega, by go_num, by rw [HX.out]; go_num, HB5.out⟩
              case measure => simp [intOf]; omega
          · obtain rfl : j = sl.length := by omega
            rw [List.take_length]
            have hB3 := HBR.out.trans ((HY.out.trans (hBt.mono hs3)).mono hsr)
            have c0' := (Mod.of_below (HY.out.trans (hBt.mono hs3))).cell' c0 (fun h => h)
            have hO3 := HO.out.move rrowOk (w' := wr) (fun i hi _ => (HY.out.trans (hBt.mono hs3)).block i hi) (by omega)
            have HB3 := Lib.hid hB3
            have hlen : ((rs.take k).map (fun r => (⟨r.value, rNum d key pods r.value⟩ : RRow))).length = k := by rw [List.length_map, List.length_take]; omega
            clear hBt hB3
            go_wp2_with (at_builtin; refine append_k rrowOk rfl _ _ 146 273 (.agg #[.string ⟨#[]⟩, .int .i64 0]) 24 w1.heap.size (fun _ => False) rfl Tryz.underlying146 infoRRow rfl (by decide) (by decide) u8 ((rs.take k).map (fun r => (⟨r.value, rNum d key pods r.value⟩ : RRow))) ⟨u, rNum d key pods u⟩ #[.string u, .int .i64 ((sl.filter (isIn pods)).length : Nat)] rfl rfl ?d1 hO3 ?d2 HB3.out.size ?d3 ?_)
            case d1 => simp [Value.oneCell']
            case d2 => rw [HNUM.out]; rfl
            case d3 => rw [hlen]; omega
            intro v4 w4 hO4 hg4 _
            have hB4 := HB3.out.grown hg4 HB3.out.size (fun k h => (hO3.own k h).1)
            have HO4 := Lib.hid hO4
            have HB4 := Lib.hid hB4
            clear hO4 hg4 hB4 hO3 hlen
            go_wp2_with fail
            go_roundw
            case rel => exact ⟨k + 1, by omega, by go_num, HB4.out, by rw [HSN.out, List.map_take]; exact HO4.out⟩
            case measure => simp [intOf]; omega)
    · obtain rfl : k = rs.length := by omega
      rw [List.take_length] at hO
      have hv := HRV.out u8 wr (hB.trans ((HG1.out.trans (hBr.mono hs1)).mono hB.size)) (SlK.mono rrowOk (hO.slk rrowOk) (fun j hj => hj.elim (fun h => h.elim) (fun h => Nat.le_trans hB.size (Nat.le_trans hs1 (hO.own j h).1))))
      clear hO hBr
      go_wp2_with fail
      exact hv
end Go.Proofs.YtmenipaibjifiaaGreatDoor
