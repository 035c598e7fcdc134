/-
  Texts cut at a byte: splitS; the library's Split and Cut at one byte are that. No condition: plain lemmas.
-/
import Derived.Test.YtdceflgemhcgcaaGreatDoorP04
import Derived.Lib.Split
import Derived.Lib.SplitLaws
import Derived.Lib.IndexBytes
set_option linter.unusedVariables false
set_option linter.unusedSimpArgs false
namespace Go.Proofs.YtdceflgemhcgcaaGreatDoor
open Go

def splitOn (c : UInt8) : List UInt8 → List (List UInt8)
  | [] => [[]]
  | b :: r => if b = c then [] :: splitOn c r else match splitOn c r with
    | [] => [[b]]
    | p :: ps => (b :: p) :: ps
theorem splitOn_ne (c : UInt8) (l : List UInt8) : splitOn c l ≠ [] := by
  cases l with
  | nil => simp [splitOn]
  | cons b r => unfold splitOn; split <;> first | simp; done | (split <;> simp)
theorem splitOn_miss {c : UInt8} {l : List UInt8} (h : c ∉ l) : splitOn c l = [l] := by
  induction l with
  | nil => rfl
  | cons b r ih =>
    simp only [List.mem_cons, not_or] at h
    unfold splitOn
    rw [if_neg (Ne.symm h.1), ih h.2]
theorem splitOn_hit {c : UInt8} {a r : List UInt8} (h : c ∉ a) : splitOn c (a ++ c :: r) = a :: splitOn c r := by
  induction a with
  | nil => simp [splitOn]
  | cons b a ih =>
    simp only [List.mem_cons, not_or] at h
    rw [List.cons_append, splitOn, if_neg (Ne.symm h.1), ih h.2]
theorem indexByte_miss {c : UInt8} {l : List UInt8} (h : Lib.indexByte l c = -1) : c ∉ l := by
  induction l with
  | nil => simp
  | cons b r ih =>
    unfold Lib.indexByte at h
    by_cases hb : (b == c) = true
    · rw [if_pos hb] at h; omega
    · rw [if_neg hb] at h
      by_cases hr : (Lib.indexByte r c == -1) = true
      · simp only [List.mem_cons, not_or]
        exact ⟨fun e => hb (by simp [e]), ih (by simpa using hr)⟩
      · rw [if_neg hr] at h
        have hge : -1 ≤ Lib.indexByte r c := by rw [← Lib.index_one]; exact Lib.index_ge _ _
        have : Lib.indexByte r c ≠ -1 := by simpa using hr
        omega
theorem indexByte_hit {c : UInt8} {l : List UInt8} {i : Nat} (h : Lib.indexByte l c = i) : i < l.length ∧ c ∉ l.take i ∧ l = l.take i ++ c :: l.drop (i + 1) := by
  induction l generalizing i with
  | nil => simp [Lib.indexByte] at h
  | cons b r ih =>
    unfold Lib.indexByte at h
    by_cases hb : (b == c) = true
    · rw [if_pos hb] at h
      obtain rfl : i = 0 := by omega
      obtain rfl : b = c := by simpa using hb
      simp
    · rw [if_neg hb] at h
      by_cases hr : (Lib.indexByte r c == -1) = true
      · rw [if_pos hr] at h; omega
      · rw [if_neg hr] at h
        obtain ⟨j, rfl⟩ : ∃ j, i = j + 1 := ⟨i - 1, by
          have hge : -1 ≤ Lib.indexByte r c := by rw [← Lib.index_one]; exact Lib.index_ge _ _
          have : Lib.indexByte r c ≠ -1 := by simpa using hr
          omega⟩
        obtain ⟨h1, h2, h3⟩ := ih (i := j) (by omega)
        refine ⟨by simp; omega, ?_, ?_⟩
        · simp only [List.take_succ_cons, List.mem_cons, not_or]
          exact ⟨fun e => hb (by simp [e]), h2⟩
        · simp only [List.take_succ_cons, List.cons_append, List.drop_succ_cons]
          rw [← h3]
theorem index_cases (c : UInt8) (l : List UInt8) : (Lib.index l [c] = -1 ∧ c ∉ l) ∨ ∃ i : Nat, Lib.index l [c] = i ∧ i < l.length ∧ c ∉ l.take i ∧ l = l.take i ++ c :: l.drop (i + 1) := by
  rw [Lib.index_one]
  by_cases h : Lib.indexByte l c = -1
  · exact .inl ⟨h, indexByte_miss h⟩
  · have hge : -1 ≤ Lib.indexByte l c := by rw [← Lib.index_one]; exact Lib.index_ge _ _
    obtain ⟨i, hi⟩ := Int.eq_ofNat_of_zero_le (show 0 ≤ Lib.indexByte l c by omega)
    exact .inr ⟨i, hi, indexByte_hit hi⟩
def ofL (l : List UInt8) : ByteArray := ⟨l.toArray⟩
theorem ofL_data (s : ByteArray) : ofL s.data.toList = s := by obtain ⟨⟨l⟩⟩ := s; rfl
theorem ofL_size (l : List UInt8) : (ofL l).size = l.length := rfl
theorem ofL_inj {a b : ByteArray} (h : a.data.toList = b.data.toList) : a = b := by rw [← ofL_data a, ← ofL_data b, h]
/-- A text's pieces at a byte. -/
def splitS (c : UInt8) (s : ByteArray) : List ByteArray := (splitOn c s.data.toList).map ofL
theorem splitK_one (c : UInt8) : ∀ (n : Nat) (s : ByteArray), s.size ≤ n → Lib.splitK [c] 0 (Lib.countB s (ofL [c])) s.data.toList = splitOn c s.data.toList := by
  intro n
  induction n with
  | zero =>
    intro s hs
    have : s.data.toList = [] := List.eq_nil_of_length_eq_zero (by rw [dlen]; omega)
    have hm : Lib.indexB s (ofL [c]) = -1 := by unfold Lib.indexB; rw [this]; rfl
    rw [Lib.countB_miss s _ hm, this]; rfl
  | succ n ih =>
    intro s hs
    rcases index_cases c s.data.toList with ⟨h, hno⟩ | ⟨i, h, hi, hno, hs2⟩
    · have hm : Lib.indexB s (ofL [c]) = -1 := h
      rw [Lib.countB_miss s _ hm, splitOn_miss hno]; rfl
    · have hm : Lib.indexB s (ofL [c]) = i := h
      rw [Lib.countB_hit s (ofL [c]) i (by rw [ofL_size]; simp) hm, Nat.add_comm 1]
      unfold Lib.splitK
      have hne : ¬ (Lib.index s.data.toList [c] == -1) = true := by rw [h]; simp
      rw [if_neg hne, h]
      have hd : (s.extract (i + (ofL [c]).size) s.size).data.toList = s.data.toList.drop (i + 1) := by
        rw [Lib.extract_to_end]; rfl
      have hsz : (s.extract (i + (ofL [c]).size) s.size).size ≤ n := by
        rw [← dlen, hd, List.length_drop, dlen]; omega
      have := ih (s.extract (i + (ofL [c]).size) s.size) hsz
      rw [hd] at this
      simp only [Int.toNat_natCast, Nat.add_zero, List.length_cons, List.length_nil, Nat.zero_add]
      rw [this]
      conv => rhs; rw [hs2]
      rw [splitOn_hit hno]
theorem splitB_one (c : UInt8) (s : ByteArray) : Lib.splitB (ofL [c]) 0 (Lib.countB s (ofL [c])) s = splitS c s := by
  have h1 := Lib.splitB_data (ofL [c]) 0 (Lib.countB s (ofL [c])) s
  rw [show (ofL [c]).data.toList = [c] from rfl, splitK_one c s.size s (Nat.le_refl _)] at h1
  unfold splitS
  rw [← h1, List.map_map]
  conv => lhs; rw [← List.map_id (Lib.splitB (ofL [c]) 0 (Lib.countB s (ofL [c])) s)]
  exact List.map_congr_left fun a _ => (ofL_data a).symm
theorem splitB_len (c : UInt8) (s : ByteArray) : Lib.countB s (ofL [c]) + 1 = (splitS c s).length := by
  rw [← splitB_one, Lib.splitB_all (ofL [c]) (by rw [ofL_size]; simp) 0 _ s rfl]
/-- Each piece is no longer than the text. -/
theorem splitOn_le {c : UInt8} {l p : List UInt8} (h : p ∈ splitOn c l) : p.length ≤ l.length := by
  induction l generalizing p with
  | nil => simp [splitOn] at h; subst h; simp
  | cons b r ih =>
    unfold splitOn at h
    by_cases hb : b = c
    · rw [if_pos hb] at h
      rcases List.mem_cons.1 h with rfl | h
      · simp
      · have := ih h; simp; omega
    · rw [if_neg hb] at h
      cases hs : splitOn c r with
      | nil => exact absurd hs (splitOn_ne c r)
      | cons q qs =>
        rw [hs] at h ih
        rcases List.mem_cons.1 h with rfl | h
        · have := ih (List.mem_cons_self ..); simp; omega
        · have := ih (List.mem_cons_of_mem _ h); simp; omega
theorem splitS_le {c : UInt8} {s p : ByteArray} (h : p ∈ splitS c s) : p.size ≤ s.size := by
  obtain ⟨l, hl, rfl⟩ := List.mem_map.1 h
  have := splitOn_le hl
  rw [dlen] at this
  exact this

/-! ### names and keys -/
def partB (s : ByteArray) : Bool := decide (1 ≤ s.size) && allI (fun c => lowI c || c == 45) s && lowI (cd s 0) && lowI (cd s (s.size - 1))
def nameB (s : ByteArray) : Bool := decide (s.size ≤ 63) && (splitS 46 s).all partB
def keyB (s : ByteArray) : Bool := match splitS 47 s with
  | [a] => shortB a
  | [a, b] => nameB a && shortB b
  | _ => false
theorem cut_miss {c : UInt8} {s : ByteArray} (h : c ∉ s.data.toList) : Lib.cut s.data.toList [c] = (s.data.toList, [], false) ∧ splitS c s = [s] := by
  constructor
  · unfold Lib.cut
    rcases index_cases c s.data.toList with ⟨h1, _⟩ | ⟨i, h1, h2, h3, h4⟩
    · rw [h1]; simp
    · exfalso; apply h; rw [h4]; simp
  · unfold splitS; rw [splitOn_miss h]; simp [ofL_data]
theorem cut_hit {c : UInt8} {s : ByteArray} (h : c ∈ s.data.toList) : ∃ a b, Lib.cut s.data.toList [c] = (a, b, true) ∧ c ∉ a ∧ s.data.toList = a ++ c :: b ∧ splitS c s = ofL a :: splitS c (ofL b) := by
  rcases index_cases c s.data.toList with ⟨_, h1⟩ | ⟨i, h1, h2, h3, h4⟩
  · exact absurd h h1
  · refine ⟨s.data.toList.take i, s.data.toList.drop (i + 1), ?_, h3, h4, ?_⟩
    · unfold Lib.cut; rw [h1, if_pos (by omega)]; simp
    · unfold splitS
      conv => lhs; rw [h4]
      rw [splitOn_hit h3]; rfl
theorem short_not_inner {s : ByteArray} {b : UInt8} (h : b ∈ s.data.toList) (hb : innerI (b.toNat : Int) = false) : shortB s = false := by
  unfold shortB
  have : allI innerI s = false := by
    unfold allI
    rw [List.all_eq_false]
    exact ⟨b, h, by simp [hb]⟩
  rw [this, Bool.and_false]
/-- What IsKey answers behind Cut. -/
theorem key_cut (s : ByteArray) : keyB s = if (Lib.cut s.data.toList [47]).2.2 = true then nameB (ofL (Lib.cut s.data.toList [47]).1) && shortB (ofL (Lib.cut s.data.toList [47]).2.1) else shortB s := by
  by_cases h : (47 : UInt8) ∈ s.data.toList
  · obtain ⟨a, b, h1, h2, h3, h4⟩ := cut_hit h
    rw [h1]
    simp only [if_true]
    unfold keyB
    rw [h4]
    by_cases hb : (47 : UInt8) ∈ b
    · obtain ⟨a2, b2, _, _, _, h5⟩ := cut_hit (s := ofL b) (c := 47) hb
      rw [h5]
      have hs : shortB (ofL b) = false := short_not_inner (s := ofL b) hb (by decide)
      rw [hs, Bool.and_false]
      cases hsp : splitS 47 (ofL b2) with
      | nil => exact absurd hsp (by unfold splitS; simp [splitOn_ne])
      | cons x y => rfl
    · rw [(cut_miss (s := ofL b) (c := 47) hb).2]
  · obtain ⟨h1, h2⟩ := cut_miss h
    rw [h1]
    unfold keyB
    rw [h2]; simp
theorem key_long {s : ByteArray} (h : 127 < s.size) : keyB s = false := by
  rw [key_cut]
  by_cases hm : (47 : UInt8) ∈ s.data.toList
  · obtain ⟨a, b, h1, h2, h3, h4⟩ := cut_hit hm
    rw [h1]
    simp only [if_true]
    have hl : a.length + b.length + 1 = s.size := by rw [← dlen, h3]; simp; omega
    by_cases ha : a.length ≤ 63
    · have : shortB (ofL b) = false := by unfold shortB; rw [ofL_size, decide_eq_false (show ¬ b.length ≤ 63 by omega)]; simp
      rw [this, Bool.and_false]
    · have : nameB (ofL a) = false := by unfold nameB; rw [ofL_size, decide_eq_false (show ¬ a.length ≤ 63 by omega)]; simp
      rw [this, Bool.false_and]
  · rw [(cut_miss hm).1]
    simp only [Bool.false_eq_true, if_false]
    unfold shortB; rw [decide_eq_false (show ¬ s.size ≤ 63 by omega)]; simp
end Go.Proofs.YtdceflgemhcgcaaGreatDoor
