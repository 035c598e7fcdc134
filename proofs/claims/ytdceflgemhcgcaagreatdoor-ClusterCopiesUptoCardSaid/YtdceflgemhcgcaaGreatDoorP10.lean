/-
Names, keys and values of labels: the program's and the reference's walks, each coming to the same plain function. Every string of at most 1048576 bytes.
Names and keys: the program's IsName, IsKey and the reference's, over splitS. Every string of at most 1048576 bytes, in a world in which bytealg.MaxLen holds an int.
-/
import Derived.Test.YtdceflgemhcgcaaGreatDoorP07
import Derived.Test.YtdceflgemhcgcaaGreatDoorP03
import Derived.Test.YtdceflgemhcgcaaGreatDoorP06
import Derived.Test.YtdceflgemhcgcaaGreatDoorP09
import Derived.Deep.DeepCutAuto
import Derived.Deep.CutBlock
import Derived.KernelRfl
set_option linter.unusedVariables false
set_option linter.unusedSimpArgs false
namespace Go.Proofs.YtdceflgemhcgcaaGreatDoor
open Go.RowKit

theorem value_empty {s : ByteArray} (h : s.size = 0) : valueB s = true := by unfold valueB; rw [decide_eq_true h]; rfl
theorem toList_len (s : ByteArray) : s.toList.length = s.size := by rw [ByteArray.toList_eq, dlen]
theorem toList_nil {s : ByteArray} : s.toList = [] ↔ s.size = 0 := by rw [← toList_len]; exact List.length_eq_zero_iff.symm
theorem part_loop {s : ByteArray} {k : Nat} (hlt : k < s.size) (h : lowI (((s[k]'hlt).toNat : Nat) : Int) = false) (h2 : (((s[k]'hlt).toNat : Nat) : Int) ≠ 45) : partB s = false := by
  rw [cd_at] at h h2
  unfold partB
  rw [allI_not hlt (by simp [h, h2])]; simp

set_option maxHeartbeats 1000000 in
theorem value_k (R : Ending → World → Prop) (w : World) (s : ByteArray) (hs : s.size ≤ 1048576) (hR : R (.returned (.bool (valueB s))) w) : Calls Tryz.prog 116 #[.string s] w R := by
  by_cases h1 : s.size = 0
  · have h0 : s.toList.isEmpty = true := by rw [List.isEmpty_iff]; exact toList_nil.2 h1
    have h0' := Lib.hid h1
    clear h1
    go_enter Tryz.func116, Tryz.ntmps116
    go_wp2_with fail
    exact ret_bool hR (value_empty h0'.out).symm
  have h0 : s.toList.isEmpty = false := by rw [List.isEmpty_eq_false_iff]; exact fun h => h1 (toList_nil.1 h)
  by_cases h2 : 63 < s.size
  · have hv : valueB s = false := by unfold valueB; rw [decide_eq_false h1, decide_eq_false (show ¬ s.size ≤ 63 by omega)]; rfl
    have Hv := Lib.hid hv
    clear hv
    go_enter Tryz.func116, Tryz.ntmps116
    go_wp2_with fail
    all_goals exact ret_bool hR Hv.out.symm
  have c0 := cd_at s 0 (by omega)
  have c1 := cd_at s (s.size - 1) (by omega)
  have HS : Hid (valueB s = ((wordI (cd s 0) || decide (cd s 0 = 45)) && wordI (cd s (s.size - 1)) && allI innerI s)) := by
    show _ = _
    unfold valueB
    rw [decide_eq_false h1, decide_eq_true (show s.size ≤ 63 by omega)]; rfl
  rw [← c0, ← c1] at HS
  clear c0 c1
  cases e1 : wordI (((s[s.size - 1]'(by omega)).toNat : Nat) : Int) with
  | false =>
    rw [e1] at HS
    go_enter Tryz.func116, Tryz.ntmps116
    go_wp2_with (go_at_call 200; refine word_k _ _ _ ?_)
    all_goals (refine ret_bool hR ?_; rw [HS.out]; simp)
  | true =>
  by_cases e2 : (((s[0]'(by omega)).toNat : Nat) : Int) = 45
  · have e3 : ((((s[0]'(by omega)).toNat : Nat) : Int) != 45) = false := by simpa using e2
    rw [e1, show decide ((((s[0]'(by omega)).toNat : Nat) : Int) = 45) = true by simpa using e2, Bool.or_true, Bool.true_and, Bool.true_and] at HS
    have e4 : wordI (((s[0]'(by omega)).toNat : Nat) : Int) = false := by rw [e2]; rfl
    clear e2
    go_enter Tryz.func116, Tryz.ntmps116
    go_wp2_with (go_at_call 200; refine word_k _ _ _ ?_)
    clear e1 e3 e4
    go_loop [3, 31] (fun _ i => ∃ k : Nat, k ≤ s.size ∧ i = .int .i64 k ∧ ∀ j, j < k → innerI (cd s j) = true) (fun _ i => s.size - (intOf i).toNat)
    case atStart => exact ⟨0, Nat.zero_le _, rfl, fun j hj => absurd hj (Nat.not_lt_zero _)⟩
    case round =>
      obtain ⟨k, hk, rfl, hin⟩ := hrel
      have Hin := Lib.hid hin
      clear hin
      by_cases hlt : k < s.size
      · go_wp2_with (go_at_call 201; refine inner_k _ _ _ ?_)
        · rename_i hf
          refine ret_bool hR (value_loop hlt (by simpa using hf)).symm
        · rename_i hf
          have hf' : innerI (cd s k) = true := by rw [← cd_at s k hlt]; simpa using hf
          go_round
          case rel => exact ⟨k + 1, by omega, by go_num, fun j hj => by
            rcases Nat.lt_or_ge j k with h | h
            · exact Hin.out j h
            · obtain rfl : j = k := by omega
              exact hf'⟩
          case measure => simp [intOf]; omega
      · have HA := Lib.hid ((allI_iff innerI s).2 (fun j hj => Hin.out j (by omega)))
        go_wp2
        exact ret_bool hR (by rw [HS.out, HA.out])
  · have e3 : ((((s[0]'(by omega)).toNat : Nat) : Int) != 45) = true := by simpa using e2
    rw [e1, show decide ((((s[0]'(by omega)).toNat : Nat) : Int) = 45) = false by simpa using e2, Bool.or_false, Bool.and_true] at HS
    cases e4 : wordI (((s[0]'(by omega)).toNat : Nat) : Int) with
    | false =>
      rw [e4] at HS
      go_enter Tryz.func116, Tryz.ntmps116
      go_wp2_with (go_at_call 200; refine word_k _ _ _ ?_)
      all_goals (refine ret_bool hR ?_; rw [HS.out]; simp)
    | true =>
      rw [e4, Bool.true_and] at HS
      go_enter Tryz.func116, Tryz.ntmps116
      go_wp2_with (go_at_call 200; refine word_k _ _ _ ?_)
      clear e1 e2 e3 e4
      go_loop [3, 31] (fun _ i => ∃ k : Nat, k ≤ s.size ∧ i = .int .i64 k ∧ ∀ j, j < k → innerI (cd s j) = true) (fun _ i => s.size - (intOf i).toNat)
      case atStart => exact ⟨0, Nat.zero_le _, rfl, fun j hj => absurd hj (Nat.not_lt_zero _)⟩
      case round =>
        obtain ⟨k, hk, rfl, hin⟩ := hrel
        have Hin := Lib.hid hin
        clear hin
        by_cases hlt : k < s.size
        · go_wp2_with (go_at_call 201; refine inner_k _ _ _ ?_)
          · rename_i hf
            refine ret_bool hR (value_loop hlt (by simpa using hf)).symm
          · rename_i hf
            have hf' : innerI (cd s k) = true := by rw [← cd_at s k hlt]; simpa using hf
            go_round
            case rel => exact ⟨k + 1, by omega, by go_num, fun j hj => by
              rcases Nat.lt_or_ge j k with h | h
              · exact Hin.out j h
              · obtain rfl : j = k := by omega
                exact hf'⟩
            case measure => simp [intOf]; omega
        · have HA := Lib.hid ((allI_iff innerI s).2 (fun j hj => Hin.out j (by omega)))
          go_wp2
          exact ret_bool hR (by rw [HS.out, HA.out])

set_option maxHeartbeats 1000000 in
theorem rshort_k (R : Ending → World → Prop) (w : World) (s : ByteArray) (hs : s.size ≤ 1048576) (hR : R (.returned (.bool (shortB s))) w) : Calls Tryz.prog 213 #[.string s] w R := by
  by_cases h1 : s.size = 0
  · have h0 : s.toList.isEmpty = true := by rw [List.isEmpty_iff]; exact toList_nil.2 h1
    have hv : shortB s = false := by unfold shortB; rw [decide_eq_false (show ¬ 1 ≤ s.size by omega)]; rfl
    have Hv := Lib.hid hv
    clear hv h1
    go_enter Tryz.func213, Tryz.ntmps213
    go_wp2_with fail
    all_goals exact ret_bool hR Hv.out.symm
  have h0 : s.toList.isEmpty = false := by rw [List.isEmpty_eq_false_iff]; exact fun h => h1 (toList_nil.1 h)
  by_cases h2 : 63 < s.size
  · have hv : shortB s = false := by unfold shortB; rw [decide_eq_false (show ¬ s.size ≤ 63 by omega)]; simp
    have Hv := Lib.hid hv
    clear hv
    go_enter Tryz.func213, Tryz.ntmps213
    go_wp2_with fail
    all_goals exact ret_bool hR Hv.out.symm
  have c0 := cd_at s 0 (by omega)
  have c1 := cd_at s (s.size - 1) (by omega)
  have HS : Hid (shortB s = (wordI (cd s 0) && wordI (cd s (s.size - 1)) && allI innerI s)) := by
    show _ = _
    unfold shortB
    rw [decide_eq_true (show 1 ≤ s.size by omega), decide_eq_true (show s.size ≤ 63 by omega)]; rfl
  rw [← c0, ← c1] at HS
  clear c0 c1
  go_enter Tryz.func213, Tryz.ntmps213
  go_wp2_with fail
  go_loop [3] (fun  i => ∃ k : Nat, k ≤ s.size ∧ i = .int .i64 k ∧ ∀ j, j < k → innerI (cd s j) = true) (fun  i => s.size - (intOf i).toNat)
  case atStart => exact ⟨0, Nat.zero_le _, rfl, fun j hj => absurd hj (Nat.not_lt_zero _)⟩
  case round =>
    obtain ⟨k, hk, rfl, hin⟩ := hrel
    have Hin := Lib.hid hin
    clear hin
    by_cases hlt : k < s.size
    · go_wp2_with (go_at_call 214; refine rinner_k _ _ _ ?_)
      · rename_i hf
        refine ret_bool hR (short_loop hlt (by simpa using hf)).symm
      · rename_i hf
        have hf' : innerI (cd s k) = true := by rw [← cd_at s k hlt]; simpa using hf
        go_round
        case rel => exact ⟨k + 1, by omega, by go_num, fun j hj => by
          rcases Nat.lt_or_ge j k with h | h
          · exact Hin.out j h
          · obtain rfl : j = k := by omega
            exact hf'⟩
        case measure => simp [intOf]; omega
    · have HA := Lib.hid ((allI_iff innerI s).2 (fun j hj => Hin.out j (by omega)))
      rw [HA.out, Bool.and_true] at HS
      go_wp2_with (go_at_call 215; refine rword_k _ _ _ ?_)
      all_goals (refine ret_bool hR ?_; rw [HS.out]; simp_all)

set_option maxHeartbeats 1000000 in
theorem rvalue_k (R : Ending → World → Prop) (w : World) (s : ByteArray) (hs : s.size ≤ 1048576) (hR : R (.returned (.bool (valueB s))) w) : Calls Tryz.prog 137 #[.string s] w R := by
  by_cases h1 : s.size = 0
  · have h0 : s.toList.isEmpty = true := by rw [List.isEmpty_iff]; exact toList_nil.2 h1
    have h0' := Lib.hid h1
    clear h1
    go_enter Tryz.func137, Tryz.ntmps137
    go_wp2_with fail
    exact ret_bool hR (value_empty h0'.out).symm
  have h0 : s.toList.isEmpty = false := by rw [List.isEmpty_eq_false_iff]; exact fun h => h1 (toList_nil.1 h)
  by_cases h2 : 63 < s.size
  · have hv : valueB s = false := by unfold valueB; rw [decide_eq_false h1, decide_eq_false (show ¬ s.size ≤ 63 by omega)]; rfl
    have Hv := Lib.hid hv
    clear hv
    go_enter Tryz.func137, Tryz.ntmps137
    go_wp2_with fail
    all_goals exact ret_bool hR Hv.out.symm
  have c0 := cd_at s 0 (by omega)
  have c1 := cd_at s (s.size - 1) (by omega)
  have HS : Hid (valueB s = ((wordI (cd s 0) || decide (cd s 0 = 45)) && wordI (cd s (s.size - 1)) && allI innerI s)) := by
    show _ = _
    unfold valueB
    rw [decide_eq_false h1, decide_eq_true (show s.size ≤ 63 by omega)]; rfl
  rw [← c0, ← c1] at HS
  clear c0 c1
  go_enter Tryz.func137, Tryz.ntmps137
  go_wp2_with fail
  go_loop [3] (fun  i => ∃ k : Nat, k ≤ s.size ∧ i = .int .i64 k ∧ ∀ j, j < k → innerI (cd s j) = true) (fun  i => s.size - (intOf i).toNat)
  case atStart => exact ⟨0, Nat.zero_le _, rfl, fun j hj => absurd hj (Nat.not_lt_zero _)⟩
  case round =>
    obtain ⟨k, hk, rfl, hin⟩ := hrel
    have Hin := Lib.hid hin
    clear hin
    by_cases hlt : k < s.size
    · go_wp2_with (go_at_call 214; refine rinner_k _ _ _ ?_)
      · rename_i hf
        refine ret_bool hR (value_loop hlt (by simpa using hf)).symm
      · rename_i hf
        have hf' : innerI (cd s k) = true := by rw [← cd_at s k hlt]; simpa using hf
        go_round
        case rel => exact ⟨k + 1, by omega, by go_num, fun j hj => by
          rcases Nat.lt_or_ge j k with h | h
          · exact Hin.out j h
          · obtain rfl : j = k := by omega
            exact hf'⟩
        case measure => simp [intOf]; omega
    · have HA := Lib.hid ((allI_iff innerI s).2 (fun j hj => Hin.out j (by omega)))
      rw [HA.out, Bool.and_true] at HS
      go_wp2_with (go_at_call 215; refine rword_k _ _ _ ?_)
      all_goals (refine ret_bool hR ?_; rw [HS.out]; simp_all)

set_option maxHeartbeats 1000000 in
theorem rpart_k (R : Ending → World → Prop) (w : World) (s : ByteArray) (hs : s.size ≤ 1048576) (hR : R (.returned (.bool (partB s))) w) : Calls Tryz.prog 135 #[.string s] w R := by
  by_cases h1 : s.size = 0
  · have h0 : s.toList.isEmpty = true := by rw [List.isEmpty_iff]; exact toList_nil.2 h1
    have hv : partB s = false := by unfold partB; rw [decide_eq_false (show ¬ 1 ≤ s.size by omega)]; rfl
    have Hv := Lib.hid hv
    clear hv h1
    go_enter Tryz.func135, Tryz.ntmps135
    go_wp2_with fail
    all_goals exact ret_bool hR Hv.out.symm
  have h0 : s.toList.isEmpty = false := by rw [List.isEmpty_eq_false_iff]; exact fun h => h1 (toList_nil.1 h)
  have c0 := cd_at s 0 (by omega)
  have c1 := cd_at s (s.size - 1) (by omega)
  have HS : Hid (partB s = (allI (fun c => lowI c || c == 45) s && lowI (cd s 0) && lowI (cd s (s.size - 1)))) := by
    show _ = _
    unfold partB
    rw [decide_eq_true (show 1 ≤ s.size by omega)]; rfl
  rw [← c0, ← c1] at HS
  clear c0 c1
  go_enter Tryz.func135, Tryz.ntmps135
  go_wp2_with fail
  go_loop [3] (fun i => ∃ k : Nat, k ≤ s.size ∧ i = .int .i64 k ∧ ∀ j, j < k → (lowI (cd s j) || cd s j == 45) = true) (fun i => s.size - (intOf i).toNat)
  case atStart => exact ⟨0, Nat.zero_le _, rfl, fun j hj => absurd hj (Nat.not_lt_zero _)⟩
  case round =>
    obtain ⟨k, hk, rfl, hin⟩ := hrel
    have Hin := Lib.hid hin
    clear hin
    by_cases hlt : k < s.size
    · by_cases hp : (lowI (cd s k) || cd s k == 45) = true
      · have Hp := Lib.hid hp
        rw [← cd_at s k hlt] at hp
        have hp2 : lowI (((s[k]'hlt).toNat : Nat) : Int) = false → ((((s[k]'hlt).toNat : Nat) : Int) != 45) = false := fun h => by rw [h, Bool.false_or] at hp; rw [bne, hp]; rfl
        clear hp
        go_wp2_with (go_at_call 212; refine rlow_k _ _ _ ?_)
        all_goals first
          | (go_round
             case rel => exact ⟨k + 1, by omega, by go_num, fun j hj => by
               rcases Nat.lt_or_ge j k with h | h
               · exact Hin.out j h
               · obtain rfl : j = k := by omega
                 exact Hp.out⟩
             case measure => simp [intOf]; omega)
          | (exfalso; simp_all; done)
      · rw [← cd_at s k hlt, Bool.not_eq_true, Bool.or_eq_false_iff] at hp
        obtain ⟨hp1, hp2⟩ := hp
        have hp3 : ((((s[k]'hlt).toNat : Nat) : Int) != 45) = true := by rw [bne, hp2]; rfl
        have HF := Lib.hid (part_loop hlt hp1 (by simpa using hp2))
        clear hp2
        go_wp2_with (go_at_call 212; refine rlow_k _ _ _ ?_)
        all_goals exact ret_bool hR HF.out.symm
    · have HA := Lib.hid ((allI_iff (fun c => lowI c || c == 45) s).2 (fun j hj => Hin.out j (by omega)))
      rw [HA.out, Bool.true_and] at HS
      go_wp2_with (go_at_call 212; refine rlow_k _ _ _ ?_)
      all_goals (refine ret_bool hR ?_; rw [HS.out]; simp_all)
end Go.Proofs.YtdceflgemhcgcaaGreatDoor

namespace Go.Proofs.YtdceflgemhcgcaaGreatDoor
open Go.RowKit

/-- bytealg.MaxLen holds some int. -/
def GOk (w : World) : Prop := ∃ m, w.cell? ⟨0, 0, none⟩ = some (.int .i64 m)
theorem GOk.mod {w w' : World} {S : Nat → Prop} (h : GOk w) (hm : Mod S w w') (hs : ¬ S 0) : GOk w' := by
  obtain ⟨m, h⟩ := h; exact ⟨m, hm.cell' h hs⟩
theorem GOk.below {w w' : World} (h : GOk w) (hm : Below w.heap.size w w') : GOk w' := h.mod (Mod.of_below hm) (fun h => h)
theorem infoStr : (Tryz.prog.info? 9).map (fun i => (i.zero, i.size, i.bytes)) = some (some (.string ⟨#[]⟩), 1, 16) := by kernel_rfl
theorem below_drewN {B : Nat} {w W : World} (h : Below B w W) (n : Nat) : Below B w (W.drewN n) := ⟨h.os, h.tape, h.output, h.size, h.block⟩

theorem split_step {c : UInt8} {l : List UInt8} {f k : Nat} (hf : f ≤ k) (hk : k < l.length) (hc : l[k]'hk = c) (hno : c ∉ (l.take k).drop f) : splitOn c (l.drop f) = ((l.take k).drop f) :: splitOn c (l.drop (k + 1)) := by
  have : l.drop f = (l.take k).drop f ++ c :: l.drop (k + 1) := by
    conv => lhs; rw [← List.take_append_drop k l]
    rw [List.drop_append_of_le_length (by simp; omega)]
    congr 1
    rw [← hc]; exact List.drop_eq_getElem_cons hk
  rw [this, splitOn_hit hno]
theorem extract_toList (s : ByteArray) (a b : Nat) : (s.extract a b).data.toList = (s.data.toList.take b).drop a := by
  rw [Lib.extract_data, List.drop_take]
theorem byte_at (s : ByteArray) (k : Nat) (h : k < s.size) : ((s[k]'h).toNat : Int) = ((s.data.toList[k]'(by rw [dlen]; exact h)).toNat : Int) := rfl

set_option maxHeartbeats 1000000 in
theorem rcut_k (R : Ending → World → Prop) (w : World) (s : ByteArray) (c : UInt8) (hs : s.size ≤ 1048576)
    (hR : ∀ v' w', Below w.heap.size w w' → SlK strsK 1 w' (fun k => w.heap.size ≤ k) v' (splitS c s) → R (.returned v') w') :
    Calls Tryz.prog 134 #[.string s, .int .u8 (c.toNat : Int)] w R := by
  go_enter Tryz.func134, Tryz.ntmps134
  go_wp2
  go_loopw [5, 6, 7] (fun v f i wr => ∃ (k p : Nat) (ps : List ByteArray), k ≤ s.size ∧ p ≤ k ∧ i = .int .i64 k ∧ f = .int .i64 p ∧ Below w.heap.size w wr ∧ OwnK strsK 1 9 wr w.heap.size Non v ps ∧
    splitOn c s.data.toList = ps.map (·.data.toList) ++ splitOn c (s.data.toList.drop p) ∧ c ∉ (s.data.toList.take k).drop p ∧ ps.length ≤ k) (fun _ _ i _ => s.size - (intOf i).toNat)
  case atStart => exact ⟨0, 0, [], Nat.zero_le _, Nat.le_refl _, rfl, rfl, Below.refl _ _, .nil (fun _ h => h.elim), by simp, by simp, by simp⟩
  case round =>
    obtain ⟨k, p, ps, hk, hp, rfl, rfl, hB, hO, hsp, hno, hpl⟩ := hrel
    have Hs := Lib.hid (And.intro hsp hno)
    clear hsp hno
    by_cases hlt : k < s.size
    · by_cases hc : (s.data.toList[k]'(by rw [dlen]; exact hlt)) = c
      · have hce : ((((s[k]'hlt).toNat : Nat) : Int) == (c.toNat : Int)) = true := by rw [byte_at, hc]; simp
        have Hc := Lib.hid hc
        clear hc
        go_wp2_with (at_builtin; refine append_k strOk rfl _ _ 90 9 (.string ⟨#[]⟩) 16 w.heap.size Non rfl Tryz.underlying90 infoStr rfl (by decide) (by decide) u5 ps (s.extract p k) #[.string (s.extract p k)] rfl rfl ?c1 hO rfl hB.size ?c3 ?_)
        case c1 => simp [Value.oneCell']
        case c3 => omega
        intro v2 w2 hO2 hg2 _
        have hB2 := hB.grown hg2 hB.size (fun k h => (hO.own k h).1)
        go_wp2
        go_roundw
        case rel => exact ⟨k + 1, k + 1, ps ++ [s.extract p k], by omega, Nat.le_refl _, by go_num, by go_num, hB2, hO2, by
          rw [Hs.out.1, split_step hp (by rw [dlen]; exact hlt) Hc.out Hs.out.2]; simp [List.drop_take], by simp, by simp; omega⟩
        case measure => simp [intOf]; omega
      · have hce : ((((s[k]'hlt).toNat : Nat) : Int) == (c.toNat : Int)) = false := by
          rw [byte_at, beq_eq_false_iff_ne]
          intro h
          exact hc (UInt8.toNat_inj.1 (by exact_mod_cast h))
        have Hc := Lib.hid hc
        clear hc
        go_wp2
        go_roundw
        case rel => exact ⟨k + 1, p, ps, by omega, by omega, by go_num, rfl, hB, hO, Hs.out.1, by
          rw [take_snoc _ k (by rw [dlen]; exact hlt), List.drop_append_of_le_length (by simp; omega)]
          simp only [List.mem_append, not_or, List.mem_singleton]
          exact ⟨Hs.out.2, fun h => Hc.out h.symm⟩, by omega⟩
        case measure => simp [intOf]; omega
    · obtain rfl : k = s.size := by omega
      go_wp2_with (at_builtin; refine append_k strOk rfl _ _ 90 9 (.string ⟨#[]⟩) 16 w.heap.size Non rfl Tryz.underlying90 infoStr rfl (by decide) (by decide) u5 ps (s.extract p s.size) #[.string (s.extract p s.size)] rfl rfl ?c1 hO rfl hB.size ?c3 ?_)
      case c1 => simp [Value.oneCell']
      case c3 => omega
      intro v2 w2 hO2 hg2 _
      have hB2 := hB.grown hg2 hB.size (fun k h => (hO.own k h).1)
      go_wp2
      refine hR _ _ hB2 ?_
      have := hO2.slk strOk
      have he : ps ++ [s.extract p s.size] = splitS c s := by
        unfold splitS
        have h2 := Hs.out.2
        rw [show s.data.toList.take s.size = s.data.toList from List.take_of_length_le (by rw [dlen]; omega)] at h2
        rw [Hs.out.1, splitOn_miss h2, List.map_append, List.map_map]
        congr 1
        · conv => lhs; rw [← List.map_id ps]
          exact List.map_congr_left fun a _ => (ofL_data a).symm
        · simp only [List.map_cons, List.map_nil]
          congr 1
          apply ofL_inj
          rw [extract_toList, List.take_of_length_le (by rw [dlen]; omega)]; rfl
      rw [he] at this
      exact this.mono strOk (fun k hk => hk.elim (fun h => h.elim) (fun h => (hO2.own k h).1))

theorem str_elem {w : World} {ok : Nat → Prop} {v : Value} {xs : List ByteArray} (h : SlK strsK 1 w ok v xs) {j : Nat} (hj : j < xs.length) :
    ∃ b off c, v = .slice (some ⟨b, off, none⟩) xs.length c ∧ w.cell? ⟨b, off + j, none⟩ = some (.string (xs[j]'hj)) := by
  obtain ⟨b, off, c, cs, h1, _, _, hk, _, hc⟩ := h.elem hj
  cases hk
  exact ⟨b, off, c, h1, by simpa using hc 0 _ rfl⟩

set_option maxHeartbeats 1000000 in
theorem rname_k (R : Ending → World → Prop) (w : World) (s : ByteArray) (hs : s.size ≤ 1048576) (hR : ∀ w', Below w.heap.size w w' → R (.returned (.bool (nameB s))) w') : Calls Tryz.prog 67 #[.string s] w R := by
  by_cases h2 : 63 < s.size
  · have hv : nameB s = false := by unfold nameB; rw [decide_eq_false (show ¬ s.size ≤ 63 by omega)]; rfl
    have Hv := Lib.hid hv
    clear hv
    go_enter Tryz.func67, Tryz.ntmps67
    go_wp2_with fail
    exact ret_bool (hR _ (Below.refl _ _)) Hv.out.symm
  have HS : Hid (nameB s = (splitS 46 s).all partB) := by
    show _ = _
    unfold nameB; rw [decide_eq_true (show s.size ≤ 63 by omega)]; rfl
  have hle := splitB_len 46 s
  have hlen : (splitS 46 s).length ≤ 1048577 := by
    rw [← hle]
    have := Lib.countB_le (ofL [46]) (by rw [ofL_size]; simp) s.size s (Nat.le_refl _)
    omega
  clear hle
  have hpc : ∀ p ∈ splitS 46 s, p.size ≤ 1048576 := fun p hp => by have := splitS_le hp; omega
  go_enter Tryz.func67, Tryz.ntmps67
  go_wp2_with (go_at_call 134; refine rcut_k _ _ s 46 hs ?_)
  intro v1 w1 hB1 hv1
  obtain ⟨A, c, rfl, hAc, _⟩ := hv1.form
  go_wp2_with fail
  go_loop [4, 5] (fun i _ => ∃ k : Nat, k ≤ (splitS 46 s).length ∧ i = .int .i64 k ∧ ∀ j (hj : j < (splitS 46 s).length), j < k → partB ((splitS 46 s)[j]'hj) = true) (fun i _ => (splitS 46 s).length - (intOf i).toNat)
  case atStart => exact ⟨0, Nat.zero_le _, rfl, fun j _ hj => absurd hj (Nat.not_lt_zero _)⟩
  case round =>
    obtain ⟨k, hk, rfl, hin⟩ := hrel
    have Hin := Lib.hid hin
    clear hin
    by_cases hlt : k < (splitS 46 s).length
    · obtain ⟨b, off, c', he, hc⟩ := str_elem hv1 hlt
      simp only [Value.slice.injEq] at he
      obtain ⟨rfl, -, rfl⟩ := he
      have hps := hpc _ (List.getElem_mem hlt)
      cases hpb : partB ((splitS 46 s)[k]'hlt) with
      | false =>
        have Hp := Lib.hid hpb
        go_wp2_with (go_at_call 135; refine rpart_k _ _ _ hps ?_)
        refine ret_bool (hR _ hB1) ?_
        rw [HS.out]; symm
        rw [List.all_eq_false]
        exact ⟨_, List.getElem_mem hlt, by rw [Hp.out]; simp⟩
      | true =>
        have Hp := Lib.hid hpb
        go_wp2_with (go_at_call 135; refine rpart_k _ _ _ hps ?_)
        go_round
        case rel => exact ⟨k + 1, by omega, by go_num, fun j hj h => by
          rcases Nat.lt_or_ge j k with h' | h'
          · exact Hin.out j hj h'
          · obtain rfl : j = k := by omega
            exact Hp.out⟩
        case measure => simp [intOf]; omega
    · obtain rfl : k = (splitS 46 s).length := by omega
      go_wp2
      refine ret_bool (hR _ hB1) ?_
      rw [HS.out]; symm
      rw [List.all_eq_true]
      intro p hp
      obtain ⟨j, hj, rfl⟩ := List.mem_iff_getElem.1 hp
      exact Hin.out j hj hj

set_option maxHeartbeats 2000000 in
theorem name_k (R : Ending → World → Prop) (w : World) (s : ByteArray) (hG : GOk w) (hs : s.size ≤ 1048576) (hR : ∀ w', Below w.heap.size w w' → R (.returned (.bool (nameB s))) w') : Calls Tryz.prog 48 #[.string s] w R := by
  by_cases h1 : s.size < 1
  · have hv : nameB s = false := by
      have : s.data.toList = [] := List.eq_nil_of_length_eq_zero (by rw [dlen]; omega)
      unfold nameB splitS; rw [this]; simp [splitOn, partB, ofL_size]
    have Hv := Lib.hid hv
    clear hv
    go_enter Tryz.func48, Tryz.ntmps48
    go_wp2_with fail
    all_goals exact ret_bool (hR _ (Below.refl _ _)) Hv.out.symm
  by_cases h2 : 63 < s.size
  · have hv : nameB s = false := by unfold nameB; rw [decide_eq_false (show ¬ s.size ≤ 63 by omega)]; rfl
    have Hv := Lib.hid hv
    clear hv
    go_enter Tryz.func48, Tryz.ntmps48
    go_wp2_with fail
    all_goals exact ret_bool (hR _ (Below.refl _ _)) Hv.out.symm
  have HS : Hid (nameB s = (splitS 46 s).all partB) := by
    show _ = _
    unfold nameB; rw [decide_eq_true (show s.size ≤ 63 by omega)]; rfl
  have hle := splitB_len 46 s
  have hlen : (splitS 46 s).length ≤ 1048577 := by
    rw [← hle]
    have := Lib.countB_le (ofL [46]) (by rw [ofL_size]; simp) s.size s (Nat.le_refl _)
    omega
  have hpc : ∀ p ∈ splitS 46 s, p.size ≤ 63 := fun p hp => by have := splitS_le hp; omega
  obtain ⟨gm, hgm⟩ := hG
  have hcon := Tryz.strings_Split s (ofL [46]) gm w (by omega) hgm (by rw [ofL_size]; simp)
  rw [splitB_one, hle] at hcon
  have Hcon := Lib.hid hcon
  clear hcon hle
  generalize hps : splitS 46 s = ps at *
  have Hps := Lib.hid hps
  clear hps
  go_enter Tryz.func48, Tryz.ntmps48
  go_wp2_with (go_at_call 113; refine Hcon.out.mono ?_; rintro e w' ⟨rfl, rfl⟩)
  have hc : ∀ k (h : k < ps.length), (w.alloc (.cells (ps.map Value.string).toArray 9)).cell? ⟨w.heap.size, k, none⟩ = some (.string (ps[k]'h)) := fun k h => cell_new (by simp [h])
  have hB1 : Below w.heap.size w (w.alloc (.cells (ps.map Value.string).toArray 9)) := (Below.refl _ _).alloc (Nat.le_refl _) _
  generalize w.alloc (.cells (ps.map Value.string).toArray 9) = w1 at *
  go_loop [4, 5, 17] (fun _ _ i => ∃ k : Nat, k ≤ ps.length ∧ i = .int .i64 k ∧ ∀ j (hj : j < ps.length), j < k → partB (ps[j]'hj) = true) (fun _ _ i => ps.length - (intOf i).toNat)
  case atStart => exact ⟨0, Nat.zero_le _, rfl, fun j _ hj => absurd hj (Nat.not_lt_zero _)⟩
  case round =>
    obtain ⟨k, hk, rfl, hin⟩ := hrel
    have Hin := Lib.hid hin
    clear hin
    by_cases hlt : k < ps.length
    · have hck := hc k hlt
      have HF : partB (ps[k]'hlt) = false → R (.returned (.bool false)) w1 := fun h => ret_bool (hR _ hB1) (by
        rw [HS.out]; symm; rw [List.all_eq_false]; exact ⟨_, List.getElem_mem hlt, by rw [h]; simp⟩)
      have HN : partB (ps[k]'hlt) = true → ∀ j (hj : j < ps.length), j < k + 1 → partB (ps[j]'hj) = true := fun h j hj hjk => by
        rcases Nat.lt_or_ge j k with h' | h'
        · exact Hin.out j hj h'
        · obtain rfl : j = k := by omega
          exact h
      have hsz := hpc _ (List.getElem_mem hlt)
      clear hc
      generalize ps[k]'hlt = p at *
      have Hck := Lib.hid hck
      have Hf := Lib.hid HF
      have Hn := Lib.hid HN
      clear HF HN
      by_cases p0 : p.size = 0
      · have h0 : p.toList.isEmpty = true := by rw [List.isEmpty_iff]; exact toList_nil.2 p0
        have hpf := Lib.hid (Hf.out (by unfold partB; rw [decide_eq_false (show ¬ 1 ≤ p.size by omega)]; rfl))
        clear p0
        go_wp2_with fail
        all_goals exact hpf.out
      have h0 : p.toList.isEmpty = false := by rw [List.isEmpty_eq_false_iff]; exact fun h => p0 (toList_nil.1 h)
      have c0 := cd_at p 0 (by omega)
      have c1 := cd_at p (p.size - 1) (by omega)
      have HP : Hid (partB p = (allI (fun c => lowI c || c == 45) p && lowI (cd p 0) && lowI (cd p (p.size - 1)))) := by
        show _ = _
        unfold partB
        rw [decide_eq_true (show 1 ≤ p.size by omega)]; rfl
      rw [← c0, ← c1] at HP
      clear c0 c1
      cases e0 : lowI (((p[0]'(by omega)).toNat : Nat) : Int) with
      | false =>
        have hpf := Lib.hid (Hf.out (by rw [HP.out, e0]; simp))
        go_wp2_with (go_at_call 114; refine low_k _ _ _ ?_)
        all_goals exact hpf.out
      | true =>
      cases e1 : lowI (((p[p.size - 1]'(by omega)).toNat : Nat) : Int) with
      | false =>
        have hpf := Lib.hid (Hf.out (by rw [HP.out, e1]; simp))
        go_wp2_with (go_at_call 114; refine low_k _ _ _ ?_)
        all_goals exact hpf.out
      | true =>
      rw [e0, e1, Bool.and_true, Bool.and_true] at HP
      go_wp2_with (go_at_call 114; refine low_k _ _ _ ?_)
      clear e0 e1
      go_loop [5, 40] (fun _ i => ∃ q : Nat, q ≤ p.size ∧ i = .int .i64 q ∧ ∀ j, j < q → (lowI (cd p j) || cd p j == 45) = true) (fun _ i => p.size - (intOf i).toNat)
      case atStart => exact ⟨0, Nat.zero_le _, rfl, fun j hj => absurd hj (Nat.not_lt_zero _)⟩
      case round =>
        obtain ⟨q, hq, rfl, hin2⟩ := hrel
        have Hin2 := Lib.hid hin2
        clear hin2
        by_cases hql : q < p.size
        · by_cases hp : (lowI (cd p q) || cd p q == 45) = true
          · have Hp := Lib.hid hp
            rw [← cd_at p q hql] at hp
            have hp2 : lowI (((p[q]'hql).toNat : Nat) : Int) = false → ((((p[q]'hql).toNat : Nat) : Int) != 45) = false := fun h => by rw [h, Bool.false_or] at hp; rw [bne, hp]; rfl
            clear hp
            go_wp2_with (go_at_call 114; refine low_k _ _ _ ?_)
            all_goals first
              | (go_round
                 case rel => exact ⟨q + 1, by omega, by go_num, fun j hj => by
                   rcases Nat.lt_or_ge j q with h | h
                   · exact Hin2.out j h
                   · obtain rfl : j = q := by omega
                     exact Hp.out⟩
                 case measure => simp [intOf]; omega)
              | (exfalso; simp_all; done)
          · rw [← cd_at p q hql, Bool.not_eq_true, Bool.or_eq_false_iff] at hp
            obtain ⟨hp1, hp2⟩ := hp
            have hp3 : ((((p[q]'hql).toNat : Nat) : Int) != 45) = true := by rw [bne, hp2]; rfl
            have hpf := Lib.hid (Hf.out (part_loop hql hp1 (by simpa using hp2)))
            clear hp2
            go_wp2_with (go_at_call 114; refine low_k _ _ _ ?_)
            all_goals exact hpf.out
        · have HA := Lib.hid ((allI_iff (fun c => lowI c || c == 45) p).2 (fun j hj => Hin2.out j (by omega)))
          have HP2 := Lib.hid (HP.out.trans HA.out)
          go_wp2
          go_round
          case rel => exact ⟨k + 1, by omega, by go_num, Hn.out HP2.out⟩
          case measure => simp [intOf]; omega
    · obtain rfl : k = ps.length := by omega
      go_wp2
      refine ret_bool (hR _ hB1) ?_
      rw [HS.out]; symm
      rw [List.all_eq_true]
      intro p hp
      obtain ⟨j, hj, rfl⟩ := List.mem_iff_getElem.1 hp
      exact Hin.out j hj hj

theorem key_k (R : Ending → World → Prop) (w : World) (s : ByteArray) (hG : GOk w) (hs : s.size ≤ 1048576) (hR : ∀ w', Below w.heap.size w w' → R (.returned (.bool (keyB s))) w') : Calls Tryz.prog 115 #[.string s] w R := by
  obtain ⟨gm, hgm⟩ := hG
  have Hcon := Lib.hid (Tryz.strings_Cut s (ofL [47]) gm w (by omega) hgm)
  have Hk := Lib.hid (key_cut s)
  rw [show (ofL [47]).data.toList = [47] from rfl] at Hcon
  have hl1 : (Lib.cut s.data.toList [47]).1.length ≤ s.size := by
    by_cases h : (47 : UInt8) ∈ s.data.toList
    · obtain ⟨a, b, e1, _, e2, _⟩ := cut_hit h
      rw [e1, ← dlen, e2]; simp
    · rw [(cut_miss h).1, dlen]; exact Nat.le_refl _
  have hl2 : (Lib.cut s.data.toList [47]).2.1.length ≤ s.size := by
    by_cases h : (47 : UInt8) ∈ s.data.toList
    · obtain ⟨a, b, e1, _, e2, _⟩ := cut_hit h
      rw [e1, ← dlen, e2]; simp; omega
    · rw [(cut_miss h).1]; simp
  generalize Lib.cut s.data.toList [47] = t at *
  obtain ⟨a, b, ok⟩ := t
  simp only at hl1 hl2 Hcon Hk
  change Hid (keyB s = if ok = true then nameB (ofL a) && shortB (ofL b) else shortB s) at Hk
  change Hid (Calls _ _ _ _ fun e w' => e = .returned (.tuple #[.string (ofL a), .string (ofL b), .bool ok]) ∧ ∃ n, w' = w.drewN n) at Hcon
  rw [← ofL_size] at hl1 hl2
  generalize ofL a = pa at *
  generalize ofL b = pb at *
  have hG2 : ∀ n, GOk (w.drewN n) := fun n => ⟨gm, hgm⟩
  have hB : ∀ n, Below w.heap.size w (w.drewN n) := fun n => below_drewN (Below.refl _ _) n
  cases ok with
  | false =>
    rw [if_neg (by simp)] at Hk
    go_enter Tryz.func115, Tryz.ntmps115
    go_wp2_with (first | (go_at_call 198; refine Hcon.out.mono ?_; rintro e w' ⟨rfl, n, rfl⟩) | (go_at_call 199; refine short_k _ _ _ (by omega) ?_))
    exact ret_bool (hR _ (hB _)) Hk.out.symm
  | true =>
    rw [if_pos rfl] at Hk
    cases hn : nameB pa with
    | false =>
      rw [hn, Bool.false_and] at Hk
      have Hn := Lib.hid hn
      clear hn
      go_enter Tryz.func115, Tryz.ntmps115
      go_wp2_with (go_at_call 198; refine Hcon.out.mono ?_; rintro e w' ⟨rfl, n, rfl⟩)
      refine name_k _ _ _ (hG2 _) (by omega) ?_
      intro w1 hB1
      rw [Hn.out]
      go_wp2_with fail
      exact ret_bool (hR _ ((hB n).trans hB1)) Hk.out.symm
    | true =>
      rw [hn, Bool.true_and] at Hk
      have Hn := Lib.hid hn
      clear hn
      go_enter Tryz.func115, Tryz.ntmps115
      go_wp2_with (go_at_call 198; refine Hcon.out.mono ?_; rintro e w' ⟨rfl, n, rfl⟩)
      refine name_k _ _ _ (hG2 _) (by omega) ?_
      intro w1 hB1
      rw [Hn.out]
      go_wp2_with (go_at_call 199; refine short_k _ _ _ (by omega) ?_)
      exact ret_bool (hR _ ((hB n).trans hB1)) Hk.out.symm

theorem rkey_k (R : Ending → World → Prop) (w : World) (s : ByteArray) (hs : s.size ≤ 1048576) (hR : ∀ w', Below w.heap.size w w' → R (.returned (.bool (keyB s))) w') : Calls Tryz.prog 136 #[.string s] w R := by
  by_cases h2 : 127 < s.size
  · have Hv := Lib.hid (key_long h2)
    go_enter Tryz.func136, Tryz.ntmps136
    go_wp2_with fail
    exact ret_bool (hR _ (Below.refl _ _)) Hv.out.symm
  have hpc : ∀ p ∈ splitS 47 s, p.size ≤ 1048576 := fun p hp => by have := splitS_le hp; omega
  have HS : Hid (keyB s = match splitS 47 s with | [a] => shortB a | [a, b] => nameB a && shortB b | _ => false) := rfl
  have hne : splitS 47 s ≠ [] := by unfold splitS; simp [splitOn_ne]
  have hlen : (splitS 47 s).length ≤ 1048577 := by
    rw [← splitB_len]
    have := Lib.countB_le (ofL [47]) (by rw [ofL_size]; simp) s.size s (Nat.le_refl _)
    omega
  have Hcut := Lib.hid (fun R' => rcut_k R' w s 47 hs)
  generalize splitS 47 s = ps at *
  match ps, hne with
  | [a], _ =>
    have ha := hpc a (by simp)
    clear hpc hlen
    go_enter Tryz.func136, Tryz.ntmps136
    go_wp2_with (go_at_call 134; refine Hcut.out _ ?_)
    intro v1 w1 hB1 hv1
    obtain ⟨b, off, c, rfl, h0⟩ := str_elem hv1 (j := 0) (by simp)
    simp at h0
    go_wp2_with (go_at_call 213; refine rshort_k _ _ _ ha ?_)
    exact ret_bool (hR _ hB1) HS.out.symm
  | [a, b], _ =>
    have ha := hpc a (by simp)
    have hb := hpc b (by simp)
    clear hpc hlen
    go_enter Tryz.func136, Tryz.ntmps136
    go_wp2_with (go_at_call 134; refine Hcut.out _ ?_)
    intro v1 w1 hB1 hv1
    obtain ⟨b', off, c, rfl, h0⟩ := str_elem hv1 (j := 0) (by simp)
    obtain ⟨b2, off2, c2, he, h1⟩ := str_elem hv1 (j := 1) (by simp)
    simp at he
    obtain ⟨⟨rfl, rfl⟩, rfl⟩ := he
    simp at h0 h1
    cases hn : nameB a with
    | false =>
      have Hn := Lib.hid hn
      have H1 := Lib.hid h0
      clear hn
      go_wp2_with (go_at_call 67; refine rname_k _ _ _ ha ?_)
      intro w2 hB2
      rw [Hn.out]
      go_wp2_with fail
      refine ret_bool (hR _ (hB1.trans (hB2.mono hB1.size))) ?_
      rw [show keyB s = (nameB a && shortB b) from HS.out, Hn.out]; rfl
    | true =>
      have Hn := Lib.hid hn
      clear hn
      go_wp2_with (go_at_call 67; refine rname_k _ _ _ ha ?_)
      intro w2 hB2
      rw [Hn.out]
      have h1' := (hB2.cell (p := ⟨b', off + 1, none⟩) (World.block_lt_of_cell? w1 _ h1)).trans h1
      go_wp2_with (go_at_call 213; refine rshort_k _ _ _ hb ?_)
      refine ret_bool (hR _ (hB1.trans (hB2.mono hB1.size))) ?_
      rw [show keyB s = (nameB a && shortB b) from HS.out, Hn.out, Bool.true_and]
  | a :: b :: d :: r, _ =>
    clear hpc
    simp only [List.length_cons] at hlen
    go_enter Tryz.func136, Tryz.ntmps136
    go_wp2_with (go_at_call 134; refine Hcut.out _ ?_)
    intro v1 w1 hB1 hv1
    obtain ⟨A, c, rfl, hAc, _⟩ := hv1.form
    go_wp2_with fail
    exact ret_bool (hR _ hB1) HS.out.symm
end Go.Proofs.YtdceflgemhcgcaaGreatDoor
