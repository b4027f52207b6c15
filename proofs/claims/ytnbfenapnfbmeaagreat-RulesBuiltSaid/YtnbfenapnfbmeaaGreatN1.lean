/- Contracts: names and clean paths (the reference). -/
import Derived.Test.YtnbfenapnfbmeaaGreatN0
import Derived.Test.YtnbfenapnfbmeaaGreatC7
import Derived.Deep.DeepCutAuto
import Derived.Deep.CutBlock
set_option linter.unusedSimpArgs false
set_option linter.unusedVariables false
namespace Go.Proofs.YtnbfenapnfbmeaaGreat
open Go.RowKit
theorem toList_len (s : ByteArray) : s.toList.length = s.size := by rw [ByteArray.toList_eq, Array.length_toList]; rfl
theorem toList_get (s : ByteArray) (k : Nat) (h : k < s.size) (h2 : k < s.toList.length) : s.toList[k] = s[k] := by
  have e := ByteArray.toList_eq s
  simp only [e]
  rfl
theorem toList_take_succ (s : ByteArray) (k : Nat) (h : k < s.size) : s.toList.take (k + 1) = s.toList.take k ++ [s[k]] := by
  rw [List.take_succ_eq_append_getElem (by rw [toList_len]; exact h), toList_get s k h]
theorem u8_eq (x : UInt8) (n : Nat) (h : n < 256) : x.toNat = n ↔ x = UInt8.ofNat n := by
  constructor
  · intro e
    rw [← e]
    simp
  · rintro rfl
    simp
    omega
def headBad (s : ByteArray) : Bool := decide ((s.size : Int) < 1) || decide (12 < (s.size : Int)) || s.toList == [46] || s.toList == [46, 46]
def tailOk (l : List UInt8) : Bool := l.all (fun c => c != 0 && c != 47)
theorem nameB_split (s : ByteArray) : nameB s.toList = (!headBad s && tailOk s.toList) := by
  unfold nameB headBad tailOk
  rw [toList_len]
  simp only [bne]
  have e1 : decide ((s.size : Int) < 1) = !decide (1 ≤ s.size) := by rw [Bool.eq_iff_iff]; simp only [decide_eq_true_eq, Bool.not_eq_true', decide_eq_false_iff_not]; omega
  have e2 : decide (12 < (s.size : Int)) = !decide (s.size ≤ 12) := by rw [Bool.eq_iff_iff]; simp; omega
  rw [e1, e2]
  generalize decide (1 ≤ s.size) = a
  generalize decide (s.size ≤ 12) = b
  generalize (s.toList == [46]) = c
  generalize (s.toList == [46, 46]) = d
  cases a <;> cases b <;> cases c <;> cases d <;> simp
theorem tailOk_bad (s : ByteArray) (k : Nat) (h : k < s.size) (hb : s[k] = 0 ∨ s[k] = 47) : tailOk s.toList = false := by
  unfold tailOk
  rw [List.all_eq_false]
  refine ⟨s[k], ?_, ?_⟩
  · rw [← toList_get s k h (by rw [toList_len]; exact h)]
    exact List.getElem_mem _
  · rcases hb with e | e <;> rw [e] <;> decide
theorem tailOk_succ (s : ByteArray) (k : Nat) (h : k < s.size) (ht : tailOk (s.toList.take k) = true) (h0 : ¬ s[k] = 0) (h1 : ¬ s[k] = 47) : tailOk (s.toList.take (k + 1)) = true := by
  unfold tailOk at ht ⊢
  rw [toList_take_succ s k h, List.all_append, ht]
  simp [h0, h1]
set_option maxHeartbeats 1000000 in
theorem c_rname (s : ByteArray) (hs : s.size ≤ 4611686018427387904) (w : World) : Calls Tryz.prog 96 #[.string s] w fun e w' => e = .returned (.bool (nameB s.toList)) ∧ w = w' := by
  have HN := Lib.hid (nameB_split s)
  go_enter Tryz.func96, Tryz.ntmps96
  go_upto_region 1 with fail
  go_cut [19] (fun v wc => v = .bool (headBad s) ∧ wc = w)
  case first =>
    go_wp2_with fail
    all_goals (go_meet; refine ⟨congrArg Value.bool ?_, rfl⟩; unfold headBad; simp [*])
  case rest =>
    obtain ⟨rfl, rfl⟩ := hcut
    cases hq : headBad s
    case true =>
      go_wp2
      go_ret
      exact ⟨ret_bool (by rw [HN.out, hq]; rfl), rfl⟩
    case false =>
      rw [hq] at HN
      go_wp2
      go_loopg [3] s.size (fun gg i wr => ∃ k : Nat, k ≤ s.size ∧ s.size - k ≤ gg ∧ i = .int .i64 k ∧ Aside (tailOk (s.toList.take k) = true) ∧ wr = wc)
      case atStart => exact ⟨0, Nat.zero_le _, by omega, rfl, rfl, rfl⟩
      case round =>
        obtain ⟨k, hk, hg, rfl, HT, rfl⟩ := hrel
        by_cases hlt : k < s.size
        · have hl2 : (k : Int) < (s.size : Int) := by omega
          have hb0 := tailOk_bad s k hlt
          have hs0 := tailOk_succ s k hlt HT
          have e0 := u8_eq s[k] 0 (by decide)
          have e47 := u8_eq s[k] 47 (by decide)
          have HE := Lib.hid (And.intro hb0 (And.intro hs0 (And.intro e0 e47)))
          clear hb0 hs0 e0 e47
          go_wp2
          all_goals (try simp only [beq_iff_eq, beq_eq_false_iff_ne, ne_eq] at *)
          all_goals first
          | (go_ret
             refine ⟨ret_bool ?_, rfl⟩
             rw [HN.out, HE.out.1 (by rcases Classical.em ((s[k].toNat : Int) = 0) with h9 | h9; exact .inl (HE.out.2.2.1.1 (by omega)); exact .inr (HE.out.2.2.2.1 (by omega)))]
             rfl)
          | (go_roundg (s.size - (k + 1))
             case measure => omega
             case rel => exact ⟨k + 1, by omega, by omega, by go_num, HE.out.2.1 (fun e => by have := HE.out.2.2.1.2 e; omega) (fun e => by have := HE.out.2.2.2.2 e; omega), rfl⟩)
        · have hn : ¬ (k : Int) < (s.size : Int) := by omega
          have he : k = s.size := by omega
          have HT2 : Hid (tailOk s.toList = true) := Lib.hid (by have h := HT; rw [he, ← toList_len, List.take_length] at h; exact h)
          clear he HT
          go_wp2
          go_ret
          exact ⟨ret_bool (by rw [HN.out, HT2.out]; rfl), rfl⟩
end Go.Proofs.YtnbfenapnfbmeaaGreat
