/-
  What is read of a node, of a pod: data within the bulk, amounts within their kind.
-/
import Derived.Test.YtdceflgemhcgcaaGreatDoorP14
import Derived.Test.YtdceflgemhcgcaaGreatDoorP41
import Derived.Shelf.Vars
set_option linter.unusedVariables false
set_option linter.unusedSimpArgs false
namespace Go.Proofs.YtdceflgemhcgcaaGreatDoor.op6
open Go.RowKit Go.WideShapes Go.ChangeShapes Go.ChangeAt

theorem Qlab_mono : ∀ (n m : Nat) (a : Lab), n ≤ m → QLab n a → QLab m a := fun n m a h q => by unfold QLab at *; omega
def Qtnt (n : Nat) (l : Tnt) : Prop := l.key.size ≤ n ∧ l.val.size ≤ n ∧ l.eff.size ≤ n
theorem Qtnt_mono : ∀ (n m : Nat) (a : Tnt), n ≤ m → Qtnt n a → Qtnt m a := fun n m a h q => by unfold Qtnt at *; omega
theorem opens_tnt : Opens tntK 34 Qtnt := by
  intro H enc w fuel cs x hx
  obtain ⟨hl, hf⟩ := opens_field Tryz.underlying34 hx
  have hc : Tryz.prog.cellsOf 34 = 3 := by kernel_rfl
  rw [hc] at hl
  obtain ⟨n0, y0, h0, b0⟩ := hf 0 _ rfl 1 (by kernel_rfl)
  obtain ⟨n1, y1, h1, b1⟩ := hf 1 _ rfl 1 (by kernel_rfl)
  obtain ⟨n2, y2, h2, b2⟩ := hf 2 _ rfl 1 (by kernel_rfl)
  obtain ⟨s0, e0, z0⟩ := opens_string Tryz.underlying9 h0
  obtain ⟨s1, e1, z1⟩ := opens_string Tryz.underlying9 h1
  obtain ⟨s2, e2, z2⟩ := opens_string Tryz.underlying9 h2
  refine ⟨⟨s0, s1, s2⟩, list_eq_of (by rw [hl]; rfl) (fun i a hi => ?_), by show (_ : Nat) ≤ _; dsimp only; omega, by show (_ : Nat) ≤ _; dsimp only; omega, by show (_ : Nat) ≤ _; dsimp only; omega⟩
  match i, hi with
  | 0, hi => cases hi; exact list_one e0
  | 1, hi => cases hi; exact list_one e1
  | 2, hi => cases hi; exact list_one e2
def Qitm (n : Nat) (l : Itm) : Prop := l.name.size ≤ n ∧ -9223372036854775808 ≤ l.n ∧ l.n ≤ 9223372036854775807
theorem Qitm_mono : ∀ (n m : Nat) (a : Itm), n ≤ m → Qitm n a → Qitm m a := fun n m a h q => by unfold Qitm at *; omega
theorem opens_itm : Opens itmK 110 Qitm := by
  intro H enc w fuel cs x hx
  obtain ⟨hl, hf⟩ := opens_field Tryz.underlying110 hx
  have hc : Tryz.prog.cellsOf 110 = 2 := by kernel_rfl
  rw [hc] at hl
  obtain ⟨n0, y0, h0, b0⟩ := hf 0 _ rfl 1 (by kernel_rfl)
  obtain ⟨n1, y1, h1, b1⟩ := hf 1 _ rfl 1 (by kernel_rfl)
  obtain ⟨s0, e0, z0⟩ := opens_string Tryz.underlying9 h0
  obtain ⟨s1, e1, r1, r2⟩ := opens_int Tryz.underlying3 h1
  refine ⟨⟨s0, s1⟩, list_eq_of (by rw [hl]; rfl) (fun i a hi => ?_), ⟨by dsimp only; omega, r1, r2⟩⟩
  match i, hi with
  | 0, hi => cases hi; exact list_one e0
  | 1, hi => cases hi; exact list_one e1
def Qtol (n : Nat) (l : Tol) : Prop := l.key.size ≤ n ∧ l.op.size ≤ n ∧ l.val.size ≤ n ∧ l.eff.size ≤ n
theorem Qtol_mono : ∀ (n m : Nat) (a : Tol), n ≤ m → Qtol n a → Qtol m a := fun n m a h q => by unfold Qtol at *; omega
theorem opens_tol : Opens tolK 123 Qtol := by
  intro H enc w fuel cs x hx
  obtain ⟨hl, hf⟩ := opens_field Tryz.underlying123 hx
  have hc : Tryz.prog.cellsOf 123 = 4 := by kernel_rfl
  rw [hc] at hl
  obtain ⟨n0, y0, h0, b0⟩ := hf 0 _ rfl 1 (by kernel_rfl)
  obtain ⟨n1, y1, h1, b1⟩ := hf 1 _ rfl 1 (by kernel_rfl)
  obtain ⟨n2, y2, h2, b2⟩ := hf 2 _ rfl 1 (by kernel_rfl)
  obtain ⟨n3, y3, h3, b3⟩ := hf 3 _ rfl 1 (by kernel_rfl)
  obtain ⟨s0, e0, z0⟩ := opens_string Tryz.underlying9 h0
  obtain ⟨s1, e1, z1⟩ := opens_string Tryz.underlying9 h1
  obtain ⟨s2, e2, z2⟩ := opens_string Tryz.underlying9 h2
  obtain ⟨s3, e3, z3⟩ := opens_string Tryz.underlying9 h3
  refine ⟨⟨s0, s1, s2, s3⟩, list_eq_of (by rw [hl]; rfl) (fun i a hi => ?_), by show (_ : Nat) ≤ _; dsimp only; omega, by show (_ : Nat) ≤ _; dsimp only; omega, by show (_ : Nat) ≤ _; dsimp only; omega, by show (_ : Nat) ≤ _; dsimp only; omega⟩
  match i, hi with
  | 0, hi => cases hi; exact list_one e0
  | 1, hi => cases hi; exact list_one e1
  | 2, hi => cases hi; exact list_one e2
  | 3, hi => cases hi; exact list_one e3
def Qapt (n : Nat) (l : Apt) : Prop := l.topo.size ≤ n ∧ l.sel.size ≤ n
theorem Qapt_mono : ∀ (n m : Nat) (a : Apt), n ≤ m → Qapt n a → Qapt m a := fun n m a h q => by unfold Qapt at *; omega
theorem opens_apt : Opens aptK 126 Qapt := by
  intro H enc w fuel cs x hx
  obtain ⟨hl, hf⟩ := opens_field Tryz.underlying126 hx
  have hc : Tryz.prog.cellsOf 126 = 2 := by kernel_rfl
  rw [hc] at hl
  obtain ⟨n0, y0, h0, b0⟩ := hf 0 _ rfl 1 (by kernel_rfl)
  obtain ⟨n1, y1, h1, b1⟩ := hf 1 _ rfl 1 (by kernel_rfl)
  obtain ⟨s0, e0, z0⟩ := opens_string Tryz.underlying9 h0
  obtain ⟨s1, e1, z1⟩ := opens_string Tryz.underlying9 h1
  refine ⟨⟨s0, s1⟩, list_eq_of (by rw [hl]; rfl) (fun i a hi => ?_), by show (_ : Nat) ≤ _; dsimp only; omega, by show (_ : Nat) ≤ _; dsimp only; omega⟩
  match i, hi with
  | 0, hi => cases hi; exact list_one e0
  | 1, hi => cases hi; exact list_one e1
def Qprf (n : Nat) (l : Prf) : Prop := l.text.size ≤ n
theorem Qprf_mono : ∀ (n m : Nat) (a : Prf), n ≤ m → Qprf n a → Qprf m a := fun n m a h q => by unfold Qprf at *; omega
theorem opens_prf : Opens prfK 129 Qprf := by
  intro H enc w fuel cs x hx
  obtain ⟨hl, hf⟩ := opens_field Tryz.underlying129 hx
  have hc : Tryz.prog.cellsOf 129 = 2 := by kernel_rfl
  rw [hc] at hl
  obtain ⟨n0, y0, h0, b0⟩ := hf 0 _ rfl 1 (by kernel_rfl)
  obtain ⟨n1, y1, h1, b1⟩ := hf 1 _ rfl 1 (by kernel_rfl)
  obtain ⟨s0, e0, _, _⟩ := opens_int Tryz.underlying3 h0
  obtain ⟨s1, e1, z1⟩ := opens_string Tryz.underlying9 h1
  refine ⟨⟨s0, s1⟩, list_eq_of (by rw [hl]; rfl) (fun i a hi => ?_), by show (_ : Nat) ≤ _; dsimp only; omega⟩
  match i, hi with
  | 0, hi => cases hi; exact list_one e0
  | 1, hi => cases hi; exact list_one e1
theorem opens_labs : Opens (SlC labK 2) 22 (QAll QLab) := opens_slice Qlab_mono labOk Tryz.underlying22 (by kernel_rfl) (by decide) opens_lab
theorem opens_tnts : Opens (SlC tntK 3) 23 (QAll Qtnt) := opens_slice Qtnt_mono tntOk Tryz.underlying23 (by kernel_rfl) (by decide) opens_tnt
theorem opens_itms : Opens (SlC itmK 2) 24 (QAll Qitm) := opens_slice Qitm_mono itmOk Tryz.underlying24 (by kernel_rfl) (by decide) opens_itm
theorem opens_tols : Opens (SlC tolK 4) 27 (QAll Qtol) := opens_slice Qtol_mono tolOk Tryz.underlying27 (by kernel_rfl) (by decide) opens_tol
theorem opens_apts : Opens (SlC aptK 2) 28 (QAll Qapt) := opens_slice Qapt_mono aptOk Tryz.underlying28 (by kernel_rfl) (by decide) opens_apt
theorem opens_prfs : Opens (SlC prfK 2) 29 (QAll Qprf) := opens_slice Qprf_mono prfOk Tryz.underlying29 (by kernel_rfl) (by decide) opens_prf
theorem qall_mono {α : Type} {Q : Nat → α → Prop} (h : ∀ n m a, n ≤ m → Q n a → Q m a) {n m : Nat} {xs : List α} (hn : n ≤ m) (q : QAll Q n xs) : QAll Q m xs := ⟨by have := q.1; omega, fun a ha => h n m a hn (q.2 a ha)⟩
def QNod (n : Nat) (x : Nod) : Prop := x.name.size ≤ n ∧ QAll QLab n x.labels ∧ QAll Qtnt n x.taints ∧ QAll Qitm n x.cap
def QPd (n : Nat) (x : Pd) : Prop := x.name.size ≤ n ∧ QAll QLab n x.labels ∧ QAll Qitm n x.needs ∧ QAll Qtol n x.tols ∧ x.req.size ≤ n ∧ QAll Qapt n x.apart ∧ QAll Qprf n x.prefer
set_option maxRecDepth 10000 in
theorem opens_nod : Opens nodK 26 QNod := by
  intro H enc w fuel cs x hx
  obtain ⟨hl, hf⟩ := opens_field Tryz.underlying26 hx
  have hc : Tryz.prog.cellsOf 26 = 5 := by kernel_rfl
  rw [hc] at hl
  obtain ⟨n0, y0, h0, b0⟩ := hf 0 _ rfl 1 (by kernel_rfl)
  obtain ⟨n1, y1, h1, b1⟩ := hf 1 _ rfl 1 (by kernel_rfl)
  obtain ⟨n2, y2, h2, b2⟩ := hf 2 _ rfl 1 (by kernel_rfl)
  obtain ⟨n3, y3, h3, b3⟩ := hf 3 _ rfl 1 (by kernel_rfl)
  obtain ⟨n4, y4, h4, b4⟩ := hf 4 _ rfl 1 (by kernel_rfl)
  obtain ⟨s0, e0, z0⟩ := opens_string Tryz.underlying9 h0
  obtain ⟨s1, ⟨v1, e1, k1⟩, z1⟩ := opens_labs enc w _ _ _ h1
  obtain ⟨s2, ⟨v2, e2, k2⟩, z2⟩ := opens_tnts enc w _ _ _ h2
  obtain ⟨s3, ⟨v3, e3, k3⟩, z3⟩ := opens_itms enc w _ _ _ h3
  obtain ⟨s4, e4⟩ := opens_bool Tryz.underlying4 h4
  refine ⟨⟨s0, s1, s2, s3, s4⟩, ⟨v1, v2, v3, list_eq_of (by rw [hl]; rfl) (fun i a hi => ?_), k1, k2, k3⟩, by dsimp only; omega, qall_mono Qlab_mono b1 z1, qall_mono Qtnt_mono b2 z2, qall_mono Qitm_mono b3 z3⟩
  match i, hi with
  | 0, hi => cases hi; exact list_one e0
  | 1, hi => cases hi; exact list_one e1
  | 2, hi => cases hi; exact list_one e2
  | 3, hi => cases hi; exact list_one e3
  | 4, hi => cases hi; exact list_one e4
set_option maxRecDepth 10000 in
theorem opens_pd : Opens pdK 31 QPd := by
  intro H enc w fuel cs x hx
  obtain ⟨hl, hf⟩ := opens_field Tryz.underlying31 hx
  have hc : Tryz.prog.cellsOf 31 = 8 := by kernel_rfl
  rw [hc] at hl
  obtain ⟨n0, y0, h0, b0⟩ := hf 0 _ rfl 1 (by kernel_rfl)
  obtain ⟨n1, y1, h1, b1⟩ := hf 1 _ rfl 1 (by kernel_rfl)
  obtain ⟨n2, y2, h2, b2⟩ := hf 2 _ rfl 1 (by kernel_rfl)
  obtain ⟨n3, y3, h3, b3⟩ := hf 3 _ rfl 1 (by kernel_rfl)
  obtain ⟨n4, y4, h4, b4⟩ := hf 4 _ rfl 1 (by kernel_rfl)
  obtain ⟨n5, y5, h5, b5⟩ := hf 5 _ rfl 1 (by kernel_rfl)
  obtain ⟨n6, y6, h6, b6⟩ := hf 6 _ rfl 1 (by kernel_rfl)
  obtain ⟨n7, y7, h7, b7⟩ := hf 7 _ rfl 1 (by kernel_rfl)
  obtain ⟨s0, e0, z0⟩ := opens_string Tryz.underlying9 h0
  obtain ⟨s1, ⟨v1, e1, k1⟩, z1⟩ := opens_labs enc w _ _ _ h1
  obtain ⟨s2, ⟨v2, e2, k2⟩, z2⟩ := opens_itms enc w _ _ _ h2
  obtain ⟨s3, ⟨v3, e3, k3⟩, z3⟩ := opens_tols enc w _ _ _ h3
  obtain ⟨s4, e4, z4⟩ := opens_string Tryz.underlying9 h4
  obtain ⟨s5, ⟨v5, e5, k5⟩, z5⟩ := opens_apts enc w _ _ _ h5
  obtain ⟨s6, ⟨v6, e6, k6⟩, z6⟩ := opens_prfs enc w _ _ _ h6
  obtain ⟨s7, e7, _, _⟩ := opens_int Tryz.underlying3 h7
  refine ⟨⟨s0, s1, s2, s3, s4, s5, s6, s7⟩, ⟨v1, v2, v3, v5, v6, list_eq_of (by rw [hl]; rfl) (fun i a hi => ?_), k1, k2, k3, k5, k6⟩, by dsimp only; omega, qall_mono Qlab_mono b1 z1, qall_mono Qitm_mono b2 z2, qall_mono Qtol_mono b3 z3, by dsimp only; omega, qall_mono Qapt_mono b5 z5, qall_mono Qprf_mono b6 z6⟩
  match i, hi with
  | 0, hi => cases hi; exact list_one e0
  | 1, hi => cases hi; exact list_one e1
  | 2, hi => cases hi; exact list_one e2
  | 3, hi => cases hi; exact list_one e3
  | 4, hi => cases hi; exact list_one e4
  | 5, hi => cases hi; exact list_one e5
  | 6, hi => cases hi; exact list_one e6
  | 7, hi => cases hi; exact list_one e7
theorem GOk_of {W : World} (h : W.ShapedOpen Tryz.prog) : GOk W := cell_of_shapedOpen_int (t := 3) (zero := #[.int .i64 0]) h (of_decide_eq_true (by kernel_rfl)) (by kernel_rfl) rfl (by kernel_rfl) (by kernel_rfl) Tryz.underlying3
theorem nod_fit {n : Nat} {x : Nod} (hn : n ≤ 1048576) (q : QNod n x) : NodFit x := by
  obtain ⟨q0, ⟨l1, q1⟩, ⟨l2, q2⟩, ⟨l3, q3⟩⟩ := q
  exact ⟨by omega, ⟨fun s hs => by have := q1 s hs; unfold QLab at this; omega, by omega⟩, ⟨fun s hs => by have := q2 s hs; unfold Qtnt at this; omega, by omega⟩, ⟨fun s hs => by have := q3 s hs; unfold Qitm at this; omega, by omega⟩⟩
theorem pd_fit {n : Nat} {x : Pd} (hn : n ≤ 1048576) (q : QPd n x) : PdFit x := by
  obtain ⟨q0, ⟨l1, q1⟩, ⟨l2, q2⟩, ⟨l3, q3⟩, q4, ⟨l5, q5⟩, ⟨l6, q6⟩⟩ := q
  exact ⟨by omega, ⟨fun s hs => by have := q1 s hs; unfold QLab at this; omega, by omega⟩, ⟨fun s hs => by have := q3 s hs; unfold Qtol at this; omega, by omega⟩, ⟨fun s hs => by have := q2 s hs; unfold Qitm at this; omega, by omega⟩, by omega, by omega⟩
end Go.Proofs.YtdceflgemhcgcaaGreatDoor.op6
