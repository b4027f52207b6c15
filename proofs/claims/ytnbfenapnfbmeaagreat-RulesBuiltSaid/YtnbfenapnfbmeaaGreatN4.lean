/- Contracts: names and clean paths of package path. -/
import Derived.Test.YtnbfenapnfbmeaaGreatN3
import Derived.Test.YtnbfenapnfbmeaaGreatS0
import Derived.Deep.DeepCutAuto
import Derived.Deep.CutBlock
import Derived.Deep.QuietTactic
set_option linter.unusedSimpArgs false
set_option linter.unusedVariables false
namespace Go.Proofs.YtnbfenapnfbmeaaGreat
open Go.RowKit
theorem indexByte_spec (l : List UInt8) (c : UInt8) : (Lib.indexByte l c = -1 ∧ c ∉ l) ∨ ∃ (i : Nat) (p r : List UInt8), Lib.indexByte l c = i ∧ l = p ++ c :: r ∧ p.length = i ∧ c ∉ p := by
  induction l with
  | nil => exact .inl ⟨rfl, by simp⟩
  | cons b l ih =>
    unfold Lib.indexByte
    by_cases hb : b = c
    · right
      exact ⟨0, [], l, by simp [hb], by simp [hb], rfl, by simp⟩
    · have hb2 : (b == c) = false := by simpa using hb
      have hb3 : ¬ c = b := fun e => hb e.symm
      rcases ih with ⟨h1, h2⟩ | ⟨i, p, r, h1, h2, h3, h4⟩
      · left
        exact ⟨by simp [hb2, h1], by simp [hb3, h2]⟩
      · right
        refine ⟨i + 1, b :: p, r, ?_, by rw [h2]; rfl, by simp [h3], by simp [hb3, h4]⟩
        have : ((i : Int) == -1) = false := by rw [beq_eq_false_iff_ne]; omega
        simp [hb2, h1, this]
theorem containsAny_eq (l : List UInt8) (cs : List UInt8) : Lib.containsAny l cs = l.any (fun c => cs.contains c) := by
  unfold Lib.containsAny
  induction l with
  | nil => simp [Lib.indexAny]
  | cons b l ih =>
    have hge := Lib.indexAny_ge cs l
    rw [List.any_cons, ← ih]
    rw [show Lib.indexAny (b :: l) cs = if cs.contains b then 0 else if Lib.indexAny l cs == -1 then -1 else Lib.indexAny l cs + 1 from rfl]
    cases hc : cs.contains b
    · rw [if_neg (by simp)]
      by_cases h1 : Lib.indexAny l cs = -1
      · rw [h1]; rfl
      · rw [if_neg (by simpa using h1), Bool.false_or, Bool.eq_iff_iff]
        simp only [decide_eq_true_eq]
        omega
    · simp
theorem contains_tail (l : List UInt8) : (!Lib.containsAny l [47, 0]) = tailOk l := by
  rw [containsAny_eq]
  unfold tailOk
  induction l with
  | nil => rfl
  | cons b l ih =>
    rw [List.any_cons, List.all_cons, ← ih]
    have e1 : ([47, 0] : List UInt8).contains b = (b == 47 || b == 0) := by rw [List.contains_cons, List.contains_cons, List.contains_nil, Bool.or_false]
    rw [e1]
    simp only [bne]
    cases b == 47 <;> cases b == 0 <;> simp
/-- What Cut does with a slash. -/
structure CutAt (s b a : ByteArray) (m : Bool) : Prop where
  yes : m = true → s.toList = b.toList ++ 47 :: a.toList ∧ (47 : UInt8) ∉ b.toList
  no : m = false → b = s ∧ (47 : UInt8) ∉ s.toList
def CutPost (w : World) (s : ByteArray) (e : Ending) (w' : World) : Prop := ∃ (b a : ByteArray) (m : Bool), e = .returned (.tuple #[.string b, .string a, .bool m]) ∧ CutAt s b a m ∧ Below w.heap.size w w'
theorem cut_at (s : ByteArray) (i : Nat) (p r : List UInt8) (h : s.toList = p ++ 47 :: r) (hp : p.length = i) (hn : (47 : UInt8) ∉ p) : CutAt s (s.extract 0 i) (s.extract (i + 1) s.size) true := by
  have hl : i + 1 ≤ s.size := by
    have := congrArg List.length h
    rw [toList_len] at this
    simp at this
    omega
  have e1 : (s.extract 0 i).toList = p := by
    rw [toList_extract s 0 i (by omega), h]
    simp [← hp]
  have e2 : (s.extract (i + 1) s.size).toList = r := by
    rw [toList_extract s (i + 1) s.size (Nat.le_refl _), List.take_of_length_le (by rw [List.length_drop, toList_len]; omega), h]
    rw [← hp, show p.length + 1 = (p ++ [47]).length by simp, show p ++ 47 :: r = (p ++ [47]) ++ r by simp, List.drop_left]
  exact ⟨fun _ => by rw [e1, e2]; exact ⟨h, hn⟩, fun e => by cases e⟩
set_option maxHeartbeats 1000000 in
theorem c_lcut (s : ByteArray) (hs : s.size ≤ 1000000000) (w : World) : Calls Tryz.prog 128 #[.string s, .string ⟨#[47]⟩] w (CutPost w s) := by
  have hsp := indexByte_spec s.data.toList 47
  rw [← ByteArray.toList_eq] at hsp
  go_enter Tryz.func128, Tryz.ntmps128
  rcases hsp with ⟨h1, h2⟩ | ⟨i, p, r, h1, h2, h3, h4⟩
  · have H2 := Lib.hid h2
    clear h2
    go_wp2_with (go_at_call 131; refine (Tryz.stringslite_Index_one s 47 w).mono ?_; rintro e w' ⟨rfl, rfl⟩; rw [← ByteArray.toList_eq, h1])
    go_ret3
    exact ⟨_, _, _, rfl, ⟨fun e => (by cases e), fun _ => ⟨rfl, H2.out⟩⟩, Below.refl _ _⟩
  · have hl : i + 1 ≤ s.size := by
      have := congrArg List.length h2
      rw [toList_len] at this
      simp at this
      omega
    have HC := Lib.hid (cut_at s i p r h2 h3 h4)
    clear h2 h3 h4
    have hl1 : (i : Int) ≤ (s.size : Int) := by omega
    have hl2 : (i : Int) + 1 ≤ (s.size : Int) := by omega
    go_wp2_with (go_at_call 131; refine (Tryz.stringslite_Index_one s 47 w).mono ?_; rintro e w' ⟨rfl, rfl⟩; rw [← ByteArray.toList_eq, h1])
    go_quiet (fail)
    go_wp2
    go_ret3
    exact ⟨_, _, _, rfl, HC.out, pw_drewN (Below.refl _ _) _⟩
set_option maxHeartbeats 1000000 in
theorem c_cut (s : ByteArray) (hs : s.size ≤ 1000000000) (w : World) : Calls Tryz.prog 121 #[.string s, .string ⟨#[47]⟩] w (CutPost w s) := by
  go_enter Tryz.func121, Tryz.ntmps121
  go_wp2_with (go_at_call 128; refine (c_lcut s hs w).mono ?_; rintro e w' ⟨b, a, m, rfl, hc, hB⟩; have HC := Lib.hid hc; have HB := Lib.hid hB; clear hc hB)
  go_ret3
  exact ⟨_, _, _, rfl, HC.out, HB.out⟩
end Go.Proofs.YtnbfenapnfbmeaaGreat
