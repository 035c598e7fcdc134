/-
What is read of an argument: labels, taints, items, tolerations, apart, prefer; nodes, pods, changes, questions. No condition.
What is read of a script: steps, changes. No condition.
-/
import Derived.Test.YtmenipaibjifiaaGreatDoorR28
import Derived.Test.YtmenipaibjifiaaGreatDoorR45
import Derived.Test.YtmenipaibjifiaaGreatDoorR33
import Derived.Shelf.Vars
import Derived.Test.YtmenipaibjifiaaGreatDoorR49
import Derived.Test.YtmenipaibjifiaaGreatDoorR32
set_option linter.unusedVariables false
set_option linter.unusedSimpArgs false
namespace Go.Proofs.YtmenipaibjifiaaGreatDoor
open Go.RowKit Go.Deep

theorem lift_len {α : Type} {cs : List α} {k n : Nat} {l : List α} (h : (cs.drop k).take n = l) : ∀ (i : Nat) (a : α), l[i]? = some a → cs[k + i]? = some a := by
  intro i a hi
  rw [← h, List.getElem?_take] at hi
  split at hi
  · rwa [List.getElem?_drop] at hi
  · cases hi
theorem Qlab_mono : ∀ (n m : Nat) (a : Lab), n ≤ m → QLab n a → QLab m a := fun n m a h q => by unfold QLab at *; omega
def Qtnt (n : Nat) (l : Tnt) : Prop := l.key.size ≤ n ∧ l.val.size ≤ n ∧ l.eff.size ≤ n
theorem Qtnt_mono : ∀ (n m : Nat) (a : Tnt), n ≤ m → Qtnt n a → Qtnt m a := fun n m a h q => by unfold Qtnt at *; omega
theorem opens_tnt : Opens tntK 100 Qtnt := by
  intro H enc w fuel cs x hx
  obtain ⟨hl, hf⟩ := opens_field Tryz.underlying100 hx
  have hc : Tryz.prog.cellsOf 100 = 3 := by kernel_rfl
  rw [hc] at hl
  obtain ⟨n0, y0, h0, b0⟩ := hf 0 _ rfl 1 (by kernel_rfl)
  obtain ⟨n1, y1, h1, b1⟩ := hf 1 _ rfl 1 (by kernel_rfl)
  obtain ⟨n2, y2, h2, b2⟩ := hf 2 _ rfl 1 (by kernel_rfl)
  obtain ⟨s0, e0, z0⟩ := opens_string Tryz.underlying9 h0
  obtain ⟨s1, e1, z1⟩ := opens_string Tryz.underlying9 h1
  obtain ⟨s2, e2, z2⟩ := opens_string Tryz.underlying9 h2
  refine ⟨⟨s0, s1, s2⟩, list_eq_of (by rw [hl]; rfl) (fun i a hi => ?_), by show (_ : Nat) ≤ _; dsimp only; omega, by show (_ : Nat) ≤ _; dsimp only; omega, by show (_ : Nat) ≤ _; dsimp only; omega⟩
  match i, hi with
  | 0, hi => cases hi; exact list_one e0
  | 1, hi => cases hi; exact list_one e1
  | 2, hi => cases hi; exact list_one e2
def Qitm (n : Nat) (l : Itm) : Prop := l.name.size ≤ n
theorem Qitm_mono : ∀ (n m : Nat) (a : Itm), n ≤ m → Qitm n a → Qitm m a := fun n m a h q => by unfold Qitm at *; omega
theorem opens_itm : Opens itmK 185 Qitm := by
  intro H enc w fuel cs x hx
  obtain ⟨hl, hf⟩ := opens_field Tryz.underlying185 hx
  have hc : Tryz.prog.cellsOf 185 = 2 := by kernel_rfl
  rw [hc] at hl
  obtain ⟨n0, y0, h0, b0⟩ := hf 0 _ rfl 1 (by kernel_rfl)
  obtain ⟨n1, y1, h1, b1⟩ := hf 1 _ rfl 1 (by kernel_rfl)
  obtain ⟨s0, e0, z0⟩ := opens_string Tryz.underlying9 h0
  obtain ⟨s1, e1, _, _⟩ := opens_int Tryz.underlying3 h1
  refine ⟨⟨s0, s1⟩, list_eq_of (by rw [hl]; rfl) (fun i a hi => ?_), by show (_ : Nat) ≤ _; dsimp only; omega⟩
  match i, hi with
  | 0, hi => cases hi; exact list_one e0
  | 1, hi => cases hi; exact list_one e1
def Qtol (n : Nat) (l : Tol) : Prop := l.key.size ≤ n ∧ l.op.size ≤ n ∧ l.val.size ≤ n ∧ l.eff.size ≤ n
theorem Qtol_mono : ∀ (n m : Nat) (a : Tol), n ≤ m → Qtol n a → Qtol m a := fun n m a h q => by unfold Qtol at *; omega
theorem opens_tol : Opens tolK 224 Qtol := by
  intro H enc w fuel cs x hx
  obtain ⟨hl, hf⟩ := opens_field Tryz.underlying224 hx
  have hc : Tryz.prog.cellsOf 224 = 4 := by kernel_rfl
  rw [hc] at hl
  obtain ⟨n0, y0, h0, b0⟩ := hf 0 _ rfl 1 (by kernel_rfl)
  obtain ⟨n1, y1, h1, b1⟩ := hf 1 _ rfl 1 (by kernel_rfl)
  obtain ⟨n2, y2, h2, b2⟩ := hf 2 _ rfl 1 (by kernel_rfl)
  obtain ⟨n3, y3, h3, b3⟩ := hf 3 _ rfl 1 (by kernel_rfl)
  obtain ⟨s0, e0, z0⟩ := opens_string Tryz.underlying9 h0
  obtain ⟨s1, e1, z1⟩ := opens_string Tryz.underlying9 h1
  obtain ⟨s2, e2, z2⟩ := opens_string Tryz.underlying9 h2
  obtain ⟨s3, e3, z3⟩ := opens_string Tryz.underlying9 h3
  refine ⟨⟨s0, s1, s2, s3⟩, list_eq_of (by rw [hl]; rfl) (fun i a hi => ?_), by show (_ : Nat) ≤ _; dsimp only; omega, by show (_ : Nat) ≤ _; dsimp only; omega, by show (_ : Nat) ≤ _; dsimp only; omega, by show (_ : Nat) ≤ _; dsimp only; omega⟩
  match i, hi with
  | 0, hi => cases hi; exact list_one e0
  | 1, hi => cases hi; exact list_one e1
  | 2, hi => cases hi; exact list_one e2
  | 3, hi => cases hi; exact list_one e3
def Qapt (n : Nat) (l : Apt) : Prop := l.topo.size ≤ n ∧ l.sel.size ≤ n
theorem Qapt_mono : ∀ (n m : Nat) (a : Apt), n ≤ m → Qapt n a → Qapt m a := fun n m a h q => by unfold Qapt at *; omega
theorem opens_apt : Opens aptK 215 Qapt := by
  intro H enc w fuel cs x hx
  obtain ⟨hl, hf⟩ := opens_field Tryz.underlying215 hx
  have hc : Tryz.prog.cellsOf 215 = 2 := by kernel_rfl
  rw [hc] at hl
  obtain ⟨n0, y0, h0, b0⟩ := hf 0 _ rfl 1 (by kernel_rfl)
  obtain ⟨n1, y1, h1, b1⟩ := hf 1 _ rfl 1 (by kernel_rfl)
  obtain ⟨s0, e0, z0⟩ := opens_string Tryz.underlying9 h0
  obtain ⟨s1, e1, z1⟩ := opens_string Tryz.underlying9 h1
  refine ⟨⟨s0, s1⟩, list_eq_of (by rw [hl]; rfl) (fun i a hi => ?_), by show (_ : Nat) ≤ _; dsimp only; omega, by show (_ : Nat) ≤ _; dsimp only; omega⟩
  match i, hi with
  | 0, hi => cases hi; exact list_one e0
  | 1, hi => cases hi; exact list_one e1
def Qprf (n : Nat) (l : Prf) : Prop := l.text.size ≤ n
theorem Qprf_mono : ∀ (n m : Nat) (a : Prf), n ≤ m → Qprf n a → Qprf m a := fun n m a h q => by unfold Qprf at *; omega
theorem opens_prf : Opens prfK 217 Qprf := by
  intro H enc w fuel cs x hx
  obtain ⟨hl, hf⟩ := opens_field Tryz.underlying217 hx
  have hc : Tryz.prog.cellsOf 217 = 2 := by kernel_rfl
  rw [hc] at hl
  obtain ⟨n0, y0, h0, b0⟩ := hf 0 _ rfl 1 (by kernel_rfl)
  obtain ⟨n1, y1, h1, b1⟩ := hf 1 _ rfl 1 (by kernel_rfl)
  obtain ⟨s0, e0, _, _⟩ := opens_int Tryz.underlying3 h0
  obtain ⟨s1, e1, z1⟩ := opens_string Tryz.underlying9 h1
  refine ⟨⟨s0, s1⟩, list_eq_of (by rw [hl]; rfl) (fun i a hi => ?_), by show (_ : Nat) ≤ _; dsimp only; omega⟩
  match i, hi with
  | 0, hi => cases hi; exact list_one e0
  | 1, hi => cases hi; exact list_one e1
theorem opens_labs : Opens (SlC labK 2) 31 (QAll QLab) := opens_slice Qlab_mono labOk Tryz.underlying31 (by kernel_rfl) (by decide) opens_lab
theorem opens_tnts : Opens (SlC tntK 3) 32 (QAll Qtnt) := opens_slice Qtnt_mono tntOk Tryz.underlying32 (by kernel_rfl) (by decide) opens_tnt
theorem opens_itms : Opens (SlC itmK 2) 33 (QAll Qitm) := opens_slice Qitm_mono itmOk Tryz.underlying33 (by kernel_rfl) (by decide) opens_itm
theorem opens_tols : Opens (SlC tolK 4) 36 (QAll Qtol) := opens_slice Qtol_mono tolOk Tryz.underlying36 (by kernel_rfl) (by decide) opens_tol
theorem opens_apts : Opens (SlC aptK 2) 37 (QAll Qapt) := opens_slice Qapt_mono aptOk Tryz.underlying37 (by kernel_rfl) (by decide) opens_apt
theorem opens_prfs : Opens (SlC prfK 2) 38 (QAll Qprf) := opens_slice Qprf_mono prfOk Tryz.underlying38 (by kernel_rfl) (by decide) opens_prf
theorem opens_int1 : Opens intsK 3 (fun _ _ => True) := by
  intro H enc w fuel cs x hx
  obtain ⟨n, rfl, _, _⟩ := opens_int Tryz.underlying3 hx
  exact ⟨n, rfl, trivial⟩
theorem opens_ints' : Opens (SlC intsK 1) 43 (QAll (fun _ _ => True)) := opens_slice (fun _ _ _ _ _ => trivial) intOk Tryz.underlying43 (by kernel_rfl) (by decide) opens_int1
theorem qall_mono {α : Type} {Q : Nat → α → Prop} (h : ∀ n m a, n ≤ m → Q n a → Q m a) {n m : Nat} {xs : List α} (hn : n ≤ m) (q : QAll Q n xs) : QAll Q m xs := ⟨by have := q.1; omega, fun a ha => h n m a hn (q.2 a ha)⟩
def QNod (n : Nat) (x : Nod) : Prop := x.name.size ≤ n ∧ QAll QLab n x.labels ∧ QAll Qtnt n x.taints ∧ QAll Qitm n x.cap
theorem Qnod_mono : ∀ (n m : Nat) (a : Nod), n ≤ m → QNod n a → QNod m a := fun n m a h q => ⟨by have := q.1; omega, qall_mono Qlab_mono h q.2.1, qall_mono Qtnt_mono h q.2.2.1, qall_mono Qitm_mono h q.2.2.2⟩
def QPd (n : Nat) (x : Pd) : Prop := x.name.size ≤ n ∧ QAll QLab n x.labels ∧ QAll Qitm n x.needs ∧ QAll Qtol n x.tols ∧ x.req.size ≤ n ∧ QAll Qapt n x.apart ∧ QAll Qprf n x.prefer
theorem Qpd_mono : ∀ (n m : Nat) (a : Pd), n ≤ m → QPd n a → QPd m a := fun n m a h q => ⟨by have := q.1; omega, qall_mono Qlab_mono h q.2.1, qall_mono Qitm_mono h q.2.2.1, qall_mono Qtol_mono h q.2.2.2.1, by have := q.2.2.2.2.1; omega, qall_mono Qapt_mono h q.2.2.2.2.2.1, qall_mono Qprf_mono h q.2.2.2.2.2.2⟩
def QChg (n : Nat) (x : Chg) : Prop := QNod n x.was ∧ QNod n x.now ∧ QPd n x.pod
theorem Qchg_mono : ∀ (n m : Nat) (a : Chg), n ≤ m → QChg n a → QChg m a := fun n m a h q => ⟨Qnod_mono _ _ _ h q.1, Qnod_mono _ _ _ h q.2.1, Qpd_mono _ _ _ h q.2.2⟩
def QAsk (n : Nat) (x : AskD) : Prop := x.key.size ≤ n ∧ x.value.size ≤ n ∧ x.podKey.size ≤ n ∧ x.podValue.size ≤ n ∧ x.pods.length ≤ n
theorem Qask_mono : ∀ (n m : Nat) (a : AskD), n ≤ m → QAsk n a → QAsk m a := fun n m a h q => by unfold QAsk at *; omega
set_option maxRecDepth 10000 in
theorem opens_nod : Opens nodK 35 QNod := by
  intro H enc w fuel cs x hx
  obtain ⟨hl, hf⟩ := opens_field Tryz.underlying35 hx
  have hc : Tryz.prog.cellsOf 35 = 5 := by kernel_rfl
  rw [hc] at hl
  obtain ⟨n0, y0, h0, b0⟩ := hf 0 _ rfl 1 (by kernel_rfl)
  obtain ⟨n1, y1, h1, b1⟩ := hf 1 _ rfl 1 (by kernel_rfl)
  obtain ⟨n2, y2, h2, b2⟩ := hf 2 _ rfl 1 (by kernel_rfl)
  obtain ⟨n3, y3, h3, b3⟩ := hf 3 _ rfl 1 (by kernel_rfl)
  obtain ⟨n4, y4, h4, b4⟩ := hf 4 _ rfl 1 (by kernel_rfl)
  obtain ⟨s0, e0, z0⟩ := opens_string Tryz.underlying9 h0
  obtain ⟨s1, ⟨v1, e1, k1⟩, z1⟩ := opens_labs enc w _ _ _ h1
  obtain ⟨s2, ⟨v2, e2, k2⟩, z2⟩ := opens_tnts enc w _ _ _ h2
  obtain ⟨s3, ⟨v3, e3, k3⟩, z3⟩ := opens_itms enc w _ _ _ h3
  obtain ⟨s4, e4⟩ := opens_bool Tryz.underlying4 h4
  refine ⟨⟨s0, s1, s2, s3, s4⟩, ⟨v1, v2, v3, list_eq_of (by rw [hl]; rfl) (fun i a hi => ?_), k1, k2, k3⟩, by dsimp only; omega, qall_mono Qlab_mono b1 z1, qall_mono Qtnt_mono b2 z2, qall_mono Qitm_mono b3 z3⟩
  match i, hi with
  | 0, hi => cases hi; exact list_one e0
  | 1, hi => cases hi; exact list_one e1
  | 2, hi => cases hi; exact list_one e2
  | 3, hi => cases hi; exact list_one e3
  | 4, hi => cases hi; exact list_one e4
set_option maxRecDepth 10000 in
theorem opens_pd : Opens pdK 40 QPd := by
  intro H enc w fuel cs x hx
  obtain ⟨hl, hf⟩ := opens_field Tryz.underlying40 hx
  have hc : Tryz.prog.cellsOf 40 = 8 := by kernel_rfl
  rw [hc] at hl
  obtain ⟨n0, y0, h0, b0⟩ := hf 0 _ rfl 1 (by kernel_rfl)
  obtain ⟨n1, y1, h1, b1⟩ := hf 1 _ rfl 1 (by kernel_rfl)
  obtain ⟨n2, y2, h2, b2⟩ := hf 2 _ rfl 1 (by kernel_rfl)
  obtain ⟨n3, y3, h3, b3⟩ := hf 3 _ rfl 1 (by kernel_rfl)
  obtain ⟨n4, y4, h4, b4⟩ := hf 4 _ rfl 1 (by kernel_rfl)
  obtain ⟨n5, y5, h5, b5⟩ := hf 5 _ rfl 1 (by kernel_rfl)
  obtain ⟨n6, y6, h6, b6⟩ := hf 6 _ rfl 1 (by kernel_rfl)
  obtain ⟨n7, y7, h7, b7⟩ := hf 7 _ rfl 1 (by kernel_rfl)
  obtain ⟨s0, e0, z0⟩ := opens_string Tryz.underlying9 h0
  obtain ⟨s1, ⟨v1, e1, k1⟩, z1⟩ := opens_labs enc w _ _ _ h1
  obtain ⟨s2, ⟨v2, e2, k2⟩, z2⟩ := opens_itms enc w _ _ _ h2
  obtain ⟨s3, ⟨v3, e3, k3⟩, z3⟩ := opens_tols enc w _ _ _ h3
  obtain ⟨s4, e4, z4⟩ := opens_string Tryz.underlying9 h4
  obtain ⟨s5, ⟨v5, e5, k5⟩, z5⟩ := opens_apts enc w _ _ _ h5
  obtain ⟨s6, ⟨v6, e6, k6⟩, z6⟩ := opens_prfs enc w _ _ _ h6
  obtain ⟨s7, e7, _, _⟩ := opens_int Tryz.underlying3 h7
  refine ⟨⟨s0, s1, s2, s3, s4, s5, s6, s7⟩, ⟨v1, v2, v3, v5, v6, list_eq_of (by rw [hl]; rfl) (fun i a hi => ?_), k1, k2, k3, k5, k6⟩, by dsimp only; omega, qall_mono Qlab_mono b1 z1, qall_mono Qitm_mono b2 z2, qall_mono Qtol_mono b3 z3, by dsimp only; omega, qall_mono Qapt_mono b5 z5, qall_mono Qprf_mono b6 z6⟩
  match i, hi with
  | 0, hi => cases hi; exact list_one e0
  | 1, hi => cases hi; exact list_one e1
  | 2, hi => cases hi; exact list_one e2
  | 3, hi => cases hi; exact list_one e3
  | 4, hi => cases hi; exact list_one e4
  | 5, hi => cases hi; exact list_one e5
  | 6, hi => cases hi; exact list_one e6
  | 7, hi => cases hi; exact list_one e7
set_option maxRecDepth 10000 in
theorem opens_chg : Opens chgK 42 QChg := by
  intro H enc w fuel cs x hx
  obtain ⟨hl, hf⟩ := opens_field Tryz.underlying42 hx
  have hc : Tryz.prog.cellsOf 42 = 21 := by kernel_rfl
  rw [hc] at hl
  obtain ⟨n0, y0, h0, b0⟩ := hf 0 _ rfl 1 (by kernel_rfl)
  obtain ⟨n1, y1, h1, b1⟩ := hf 1 _ rfl 1 (by kernel_rfl)
  obtain ⟨n2, y2, h2, b2⟩ := hf 2 _ rfl 1 (by kernel_rfl)
  obtain ⟨n3, y3, h3, b3⟩ := hf 3 _ rfl 5 (by kernel_rfl)
  obtain ⟨n4, y4, h4, b4⟩ := hf 4 _ rfl 5 (by kernel_rfl)
  obtain ⟨n5, y5, h5, b5⟩ := hf 5 _ rfl 8 (by kernel_rfl)
  obtain ⟨s0, e0, _, _⟩ := opens_int Tryz.underlying30 h0
  obtain ⟨s1, e1, _, _⟩ := opens_int Tryz.underlying3 h1
  obtain ⟨s2, e2, _, _⟩ := opens_int Tryz.underlying3 h2
  obtain ⟨s3, k3, z3⟩ := opens_nod enc w _ _ _ h3
  obtain ⟨s4, k4, z4⟩ := opens_nod enc w _ _ _ h4
  obtain ⟨s5, k5, z5⟩ := opens_pd enc w _ _ _ h5
  refine ⟨⟨s0, s1, s2, s3, s4, s5⟩, ⟨_, _, _, ?_, k3, k4, k5⟩, Qnod_mono _ _ _ b3 z3, Qnod_mono _ _ _ b4 z4, Qpd_mono _ _ _ b5 z5⟩
  match cs, hl with
  | [c0, c1, c2, c3, c4, c5, c6, c7, c8, c9, c10, c11, c12, c13, c14, c15, c16, c17, c18, c19, c20], _ =>
    have e0' : [c0] = [Value.int .i64 s0] := e0
    have e1' : [c1] = [Value.int .i64 s1] := e1
    have e2' : [c2] = [Value.int .i64 s2] := e2
    obtain rfl := (List.cons.inj e0').1
    obtain rfl := (List.cons.inj e1').1
    obtain rfl := (List.cons.inj e2').1
    rfl
set_option maxRecDepth 10000 in
theorem opens_ask : Opens askK 45 QAsk := by
  intro H enc w fuel cs x hx
  obtain ⟨hl, hf⟩ := opens_field Tryz.underlying45 hx
  have hc : Tryz.prog.cellsOf 45 = 9 := by kernel_rfl
  rw [hc] at hl
  obtain ⟨n0, y0, h0, b0⟩ := hf 0 _ rfl 1 (by kernel_rfl)
  obtain ⟨n1, y1, h1, b1⟩ := hf 1 _ rfl 1 (by kernel_rfl)
  obtain ⟨n2, y2, h2, b2⟩ := hf 2 _ rfl 1 (by kernel_rfl)
  obtain ⟨n3, y3, h3, b3⟩ := hf 3 _ rfl 1 (by kernel_rfl)
  obtain ⟨n4, y4, h4, b4⟩ := hf 4 _ rfl 1 (by kernel_rfl)
  obtain ⟨n5, y5, h5, b5⟩ := hf 5 _ rfl 1 (by kernel_rfl)
  obtain ⟨n6, y6, h6, b6⟩ := hf 6 _ rfl 1 (by kernel_rfl)
  obtain ⟨n7, y7, h7, b7⟩ := hf 7 _ rfl 1 (by kernel_rfl)
  obtain ⟨n8, y8, h8, b8⟩ := hf 8 _ rfl 1 (by kernel_rfl)
  obtain ⟨s0, e0, _, _⟩ := opens_int Tryz.underlying3 h0
  obtain ⟨s1, e1, z1⟩ := opens_string Tryz.underlying9 h1
  obtain ⟨s2, e2, z2⟩ := opens_string Tryz.underlying9 h2
  obtain ⟨s3, e3, z3⟩ := opens_string Tryz.underlying9 h3
  obtain ⟨s4, e4, z4⟩ := opens_string Tryz.underlying9 h4
  obtain ⟨s5, e5, _, _⟩ := opens_int Tryz.underlying3 h5
  obtain ⟨s6, ⟨v6, e6, k6⟩, z6⟩ := opens_ints' enc w _ _ _ h6
  obtain ⟨s7, e7, _, _⟩ := opens_int Tryz.underlying3 h7
  obtain ⟨s8, e8, _, _⟩ := opens_int Tryz.underlying3 h8
  have z6' := z6.1
  refine ⟨⟨s0, s1, s2, s3, s4, s5, s6, s7, s8⟩, ⟨v6, list_eq_of (by rw [hl]; rfl) (fun i a hi => ?_), k6⟩, by dsimp only; omega, by dsimp only; omega, by dsimp only; omega, by dsimp only; omega, by dsimp only; omega⟩
  match i, hi with
  | 0, hi => cases hi; exact list_one e0
  | 1, hi => cases hi; exact list_one e1
  | 2, hi => cases hi; exact list_one e2
  | 3, hi => cases hi; exact list_one e3
  | 4, hi => cases hi; exact list_one e4
  | 5, hi => cases hi; exact list_one e5
  | 6, hi => cases hi; exact list_one e6
  | 7, hi => cases hi; exact list_one e7
  | 8, hi => cases hi; exact list_one e8
theorem GOk_of {W : World} (h : W.ShapedOpen Tryz.prog) : GOk W := cell_of_shapedOpen_int (t := 3) (zero := #[.int .i64 0]) h (of_decide_eq_true (by kernel_rfl)) (by kernel_rfl) rfl (by kernel_rfl) (by kernel_rfl) Tryz.underlying3
theorem labs_small {n : Nat} (hn : n ≤ 1048576) {l : List Lab} (q : QAll QLab n l) : LabsSmall l := ⟨by have := q.1; omega, fun x hx => by have := q.2 x hx; unfold QLab at this; omega⟩
theorem chg_fit {n : Nat} (hn : n ≤ 1048576) {x : Chg} (q : QChg n x) : ChgFit x := ⟨labs_small hn q.2.1.2.1, labs_small hn q.2.2.2.1⟩
end Go.Proofs.YtmenipaibjifiaaGreatDoor

namespace Go.Proofs.YtmenipaibjifiaaGreatDoor
open Go.RowKit Go.Deep

theorem chg_short {n : Nat} (hn : n ≤ 1048576) {x : Chg} (q : QChg n x) : ChgShort x := by
  obtain ⟨⟨_, q1, q2, q3⟩, ⟨_, q4, q5, q6⟩, _, q7, q8, q9, _, q10, q11⟩ := q
  have := q1.1; have := q2.1; have := q3.1; have := q4.1; have := q5.1; have := q6.1; have := q7.1; have := q8.1; have := q9.1; have := q10.1; have := q11.1
  exact ⟨⟨by omega, by omega, by omega⟩, ⟨by omega, by omega, by omega⟩, ⟨by omega, by omega, by omega, by omega, by omega⟩⟩
def QStep (n : Nat) (s : StepD) : Prop := QChg n s.chg ∧ QAsk n s.ask
theorem Qstep_mono : ∀ (n m : Nat) (a : StepD), n ≤ m → QStep n a → QStep m a := fun n m a h q => ⟨Qchg_mono _ _ _ h q.1, Qask_mono _ _ _ h q.2⟩
set_option maxRecDepth 10000 in
theorem opens_step : Opens stepK 47 QStep := by
  intro H enc w fuel cs x hx
  obtain ⟨hl, hf⟩ := opens_field Tryz.underlying47 hx
  have hc : Tryz.prog.cellsOf 47 = 30 := by kernel_rfl
  rw [hc] at hl
  obtain ⟨n0, y0, h0, b0⟩ := hf 0 _ rfl 21 (by kernel_rfl)
  obtain ⟨n1, y1, h1, b1⟩ := hf 1 _ rfl 9 (by kernel_rfl)
  obtain ⟨s0, k0, z0⟩ := opens_chg enc w _ _ _ h0
  obtain ⟨s1, ⟨vp, e1, k1⟩, z1⟩ := opens_ask enc w _ _ _ h1
  refine ⟨⟨s0, s1⟩, ⟨_, vp, ?_, k0, k1⟩, Qchg_mono _ _ _ b0 z0, Qask_mono _ _ _ b1 z1⟩
  rw [← e1]
  match cs, hl with
  | [c0, c1, c2, c3, c4, c5, c6, c7, c8, c9, c10, c11, c12, c13, c14, c15, c16, c17, c18, c19, c20, c21, c22, c23, c24, c25, c26, c27, c28, c29], _ => rfl
theorem opens_steps : Opens (SlC stepK 30) 22 (QAll QStep) := opens_slice Qstep_mono stepOk Tryz.underlying22 (by kernel_rfl) (by decide) opens_step
theorem opens_chgs : Opens (SlC chgK 21) 55 (QAll QChg) := opens_slice Qchg_mono chgOk Tryz.underlying55 (by kernel_rfl) (by decide) opens_chg
end Go.Proofs.YtmenipaibjifiaaGreatDoor
