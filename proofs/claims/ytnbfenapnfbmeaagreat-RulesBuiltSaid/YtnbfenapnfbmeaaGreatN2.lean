/- Contracts: the pieces of a text (the reference). -/
import Derived.Test.YtnbfenapnfbmeaaGreatN1
import Derived.Test.YtnbfenapnfbmeaaGreatC8
import Derived.Test.YtnbfenapnfbmeaaGreatB1
import Derived.Deep.QuietTactic
import Derived.Laws.BitsLemmas
import Derived.Laws.DeepStrings4
set_option linter.unusedSimpArgs false
set_option linter.unusedVariables false
namespace Go.Proofs.YtnbfenapnfbmeaaGreat
open Go.RowKit
abbrev tStr : TypeId := 9
def strCells (s : ByteArray) : List Value := [.string s]
theorem info_str : (Tryz.prog.info? tStr).map (fun i => (i.zero, i.size, i.bytes)) = some (some (.string ⟨#[]⟩), 1, 16) := by kernel_rfl
theorem toList_extract (s : ByteArray) (i j : Nat) (h : j ≤ s.size) : (s.extract i j).toList = (s.toList.drop i).take (j - i) := by
  rw [ByteArray.toList_eq, ByteArray.toList_eq, ByteArray.data_extract, Array.toList_extract]
/-- What Split does with the pieces so far. -/
structure SplitAt (s : ByteArray) (ps : List ByteArray) (f k : Nat) : Prop where
  fk : f ≤ k
  len : ps.length ≤ f
  no : (47 : UInt8) ∉ (s.toList.drop f).take (k - f)
  all : splitB s.toList = ps.map ByteArray.toList ++ splitB (s.toList.drop f)
theorem SplitAt.start (s : ByteArray) : SplitAt s [] 0 0 := ⟨Nat.le_refl _, Nat.le_refl _, by simp, by simp⟩
theorem SplitAt.step {s : ByteArray} {ps : List ByteArray} {f k : Nat} (h : SplitAt s ps f k) (hk : k < s.size) (hn : ¬ s[k] = 47) : SplitAt s ps f (k + 1) := by
  refine ⟨Nat.le_succ_of_le h.fk, h.len, ?_, h.all⟩
  have hl := toList_len s
  have hfk := h.fk
  rw [show k + 1 - f = (k - f) + 1 by omega, List.take_succ_eq_append_getElem (by rw [List.length_drop]; omega)]
  intro hm
  rcases List.mem_append.1 hm with h1 | h1
  · exact h.no h1
  · rw [List.mem_singleton, List.getElem_drop] at h1
    apply hn
    have e : s.toList[f + (k - f)]'(by omega) = s[k] := by
      rw [← toList_get s k hk (by omega)]
      congr 1
      omega
    rw [← e, ← h1]
theorem SplitAt.piece {s : ByteArray} {ps : List ByteArray} {f k : Nat} (h : SplitAt s ps f k) (hk : k < s.size) (hn : s[k] = 47) : splitB (s.toList.drop f) = (if ((s.toList.drop f).take (k - f)).isEmpty then [] else [(s.toList.drop f).take (k - f)]) ++ splitB (s.toList.drop (k + 1)) := by
  have hl := toList_len s
  have hfk := h.fk
  have e : s.toList.drop f = (s.toList.drop f).take (k - f) ++ 47 :: s.toList.drop (k + 1) := by
    have e1 := List.take_append_drop (k - f) (s.toList.drop f)
    have e2 : s.toList.drop k = s.toList[k]'(by omega) :: s.toList.drop (k + 1) := List.drop_eq_getElem_cons (by omega)
    rw [List.drop_drop, show f + (k - f) = k by omega, e2, toList_get s k hk, hn] at e1
    exact e1.symm
  have hno := h.no
  generalize (s.toList.drop f).take (k - f) = q at e hno ⊢
  rw [e, splitB_app _ _ hno]
theorem SplitAt.pieceEnd {s : ByteArray} {ps : List ByteArray} {f k : Nat} (h : SplitAt s ps f k) (hk : k = s.size) : splitB (s.toList.drop f) = (if ((s.toList.drop f).take (k - f)).isEmpty then [] else [(s.toList.drop f).take (k - f)]) ++ splitB (s.toList.drop (k + 1)) := by
  have hl := toList_len s
  have e : (s.toList.drop f).take (k - f) = s.toList.drop f := List.take_of_length_le (by rw [List.length_drop]; omega)
  have hno := h.no
  rw [e] at hno ⊢
  have e9 : s.toList.drop (k + 1) = [] := by rw [List.drop_eq_nil_iff]; omega
  rw [splitB_one _ hno, e9, splitB_nil, List.append_nil]
theorem SplitAt.cut {s : ByteArray} {ps : List ByteArray} {f k : Nat} (h : SplitAt s ps f k) (hk : k ≤ s.size) (hn : k = s.size ∨ ∃ h : k < s.size, s[k] = 47) (hf : f < k) : SplitAt s (ps ++ [s.extract f k]) (k + 1) (k + 1) := by
  have hl := toList_len s
  have hp : splitB (s.toList.drop f) = [(s.toList.drop f).take (k - f)] ++ splitB (s.toList.drop (k + 1)) := by
    have he : ((s.toList.drop f).take (k - f)).isEmpty = false := by
      rw [List.isEmpty_eq_false_iff]
      intro hc
      have := congrArg List.length hc
      rw [List.length_take, List.length_drop] at this
      simp at this
      omega
    rcases hn with hn | ⟨h1, h2⟩
    · have := h.pieceEnd hn
      rw [he] at this
      exact this
    · have := h.piece h1 h2
      rw [he] at this
      exact this
  refine ⟨Nat.le_refl _, by have := h.len; simp; omega, by simp, ?_⟩
  rw [h.all, hp, List.map_append, List.append_assoc, ← toList_extract s f k hk]
  rfl
theorem SplitAt.cut0 {s : ByteArray} {ps : List ByteArray} {f k : Nat} (h : SplitAt s ps f k) (hk : k ≤ s.size) (hn : k = s.size ∨ ∃ h : k < s.size, s[k] = 47) (hf : ¬ f < k) : SplitAt s ps (k + 1) (k + 1) := by
  have hfk := h.fk
  have hp : splitB (s.toList.drop f) = splitB (s.toList.drop (k + 1)) := by
    have he : ((s.toList.drop f).take (k - f)).isEmpty = true := by rw [show k - f = 0 by omega]; rfl
    rcases hn with hn | ⟨h1, h2⟩
    · have := h.pieceEnd hn
      rw [he] at this
      exact this
    · have := h.piece h1 h2
      rw [he] at this
      exact this
  exact ⟨Nat.le_refl _, by have := h.len; omega, by simp, by rw [h.all, hp]⟩
theorem SplitAt.done {s : ByteArray} {ps : List ByteArray} {f k : Nat} (h : SplitAt s ps f k) (hk : s.size < f) : ps.map ByteArray.toList = splitB s.toList := by
  rw [h.all, List.drop_eq_nil_of_le (by rw [toList_len]; omega), splitB_nil, List.append_nil]
/-- What Split returns. -/
def SplitPost (w : World) (s : ByteArray) (e : Ending) (w' : World) : Prop := ∃ (v : Value) (ps : List ByteArray) (b1 b2 : Bool), e = .returned (.tuple #[v, .bool b1, .bool b2]) ∧ OwnRow w' w.heap.size tStr 1 strCells v ps ∧ ps.map ByteArray.toList = splitB s.toList ∧ ps.length ≤ s.size + 1 ∧ Below w.heap.size w w'
set_option maxRecDepth 100000 in
set_option maxHeartbeats 1000000 in
theorem c_rsplit (s : ByteArray) (hs : s.size ≤ 1000000000) (w : World) : Calls Tryz.prog 95 #[.string s] w (SplitPost w s) := by
  obtain ⟨i0, hi, hz0, hz1, hz2⟩ := info_parts info_str
  have HI := Lib.hid hi
  clear hi
  go_enter Tryz.func95, Tryz.ntmps95
  go_wp2
  go_loopg [5, 6, 7] (s.size + 1) (fun gg v f i wr => ∃ (ps : List ByteArray) (fr k : Nat), k ≤ s.size + 1 ∧ s.size + 1 - k ≤ gg ∧ f = .int .i64 fr ∧ i = .int .i64 k ∧ fr ≤ k ∧ ps.length ≤ fr ∧ (s.size < k → s.size < fr) ∧ Aside (SplitAt s ps fr k) ∧ Aside (OwnRow wr w.heap.size tStr 1 strCells v ps) ∧ Aside (Below w.heap.size w wr))
  case atStart => exact ⟨[], 0, 0, Nat.zero_le _, by omega, rfl, rfl, Nat.le_refl _, Nat.le_refl _, by omega, SplitAt.start s, ⟨rfl, .inl ⟨rfl, rfl⟩⟩, Below.refl _ _⟩
  case round =>
    obtain ⟨ps, fr, k, hk, hg, rfl, rfl, hfk, hpf, hd, HS, HO, HB⟩ := hrel
    rcases (by omega : k = s.size + 1 ∨ k = s.size ∨ k < s.size) with h1 | h1 | h1
    · have hn : ¬ (k : Int) ≤ (s.size : Int) := by omega
      have hfr : s.size < fr := hd (by omega)
      have HD := Lib.hid (HS.done hfr)
      clear hd
      rcases Nat.eq_zero_or_pos s.size with hz | hz
      · have hz3 : ¬ (0 : Int) < (s.size : Int) := by omega
        go_wp2
        go_quiet (fail)
        go_wp2
        go_ret3
        exact ⟨_, ps, _, _, rfl, HO, HD.out, by omega, pw_drewN HB _⟩
      · have hz3 : (0 : Int) < (s.size : Int) := by omega
        have hwr : IntKind.i64.wrap ((s.size : Int) - 1) = (s.size : Int) - 1 := by rw [IntKind.wrap_i64]; omega
        have hge : 0 ≤ (s.size : Int) - 1 := by omega
        have hle : (s.size : Int) - 1 < (s.size : Int) := by omega
        have hl1 : 1 ≤ (s.size : Int) := by omega
        go_wp2
        go_quiet (fail)
        go_wp2
        go_ret3
        exact ⟨_, ps, _, _, rfl, HO, HD.out, by omega, pw_drewN HB _⟩
    · have hlt : ¬ (k : Int) < (s.size : Int) := by omega
      subst h1
      have hle : (s.size : Int) ≤ (s.size : Int) := Int.le_refl _
      clear hd
      by_cases hf : fr < s.size
      · have hf2 : (fr : Int) < (s.size : Int) := by omega
        have hf3 : (fr : Int) ≤ (s.size : Int) := by omega
        have HC := Lib.hid (HS.cut (by omega) (.inl rfl) hf)
        go_wp2_with (at_builtin; refine wpList_append_lies (w := wr.alloc (.cells #[.string (s.extract fr s.size)] tStr)) rfl _ _ 33 rfl w.heap.size tStr i0 _ 1 16 Tryz.underlying33 HI.out hz0 hz1 hz2 rfl (by decide) u5 ps.length (ps.flatMap strCells) rfl (HO.alloc _) ⟨wr.heap.size, 0, none⟩ 1 1 (strCells (s.extract fr s.size)) rfl rfl (news_new _ _ _) (by simp [strCells]; rfl) (by decide) (by unfold maxLen; omega) (by omega) (by simp; exact Nat.le_succ_of_le HB.size) _ rfl ?_; intro g cap w2 hown2 hg2 hgb hlt2; have HO2 := Lib.hid hown2; have HG2 := Lib.hid hg2; clear hown2 hg2)
        go_roundg (s.size + 1 - (s.size + 1))
        case measure => omega
        case rel => 
          refine ⟨ps ++ [s.extract fr s.size], s.size + 1, s.size + 1, by omega, by omega, by go_num, by go_num, by omega, by simp; omega, by omega, HC.out, ?_, ?_⟩
          · show OwnRow _ _ _ _ _ _ _
            unfold OwnRow
            rw [List.flatMap_append, List.length_append]
            simpa using HO2.out
          · exact (HB.alloc HB.size _).grown HG2.out (by simp; exact Nat.le_succ_of_le HB.size) (fun k hk => ((HO.alloc (.cells #[.string (s.extract fr s.size)] tStr)).lt k hk).1)
      · have hf2 : ¬ (fr : Int) < (s.size : Int) := by omega
        have HC := Lib.hid (HS.cut0 (by omega) (.inl rfl) hf)
        go_wp2
        go_roundg (s.size + 1 - (s.size + 1))
        case measure => omega
        case rel => exact ⟨ps, s.size + 1, s.size + 1, by omega, by omega, by go_num, by go_num, by omega, by omega, by omega, HC.out, HO, HB⟩
    · have hlt : (k : Int) < (s.size : Int) := by omega
      have hlt3 : (k : Int) ≤ (s.size : Int) := by omega
      have hne : ((k : Int) == (s.size : Int)) = false := by rw [beq_eq_false_iff_ne]; omega
      clear hd
      have e47 := u8_eq s[k] 47 (by decide)
      rcases Classical.em (s[k] = 47) with h47 | h47
      · have hq : ((s[k].toNat : Int) == 47) = true := by rw [h47]; rfl
        by_cases hf : fr < k
        · have hf2 : (fr : Int) < (k : Int) := by omega
          have hf3 : (fr : Int) ≤ (k : Int) := by omega
          have HC := Lib.hid (HS.cut (by omega) (.inr ⟨h1, h47⟩) hf)
          clear h47 e47
          go_wp2_with (at_builtin; refine wpList_append_lies (w := wr.alloc (.cells #[.string (s.extract fr k)] tStr)) rfl _ _ 33 rfl w.heap.size tStr i0 _ 1 16 Tryz.underlying33 HI.out hz0 hz1 hz2 rfl (by decide) u5 ps.length (ps.flatMap strCells) rfl (HO.alloc _) ⟨wr.heap.size, 0, none⟩ 1 1 (strCells (s.extract fr k)) rfl rfl (news_new _ _ _) (by simp [strCells]; rfl) (by decide) (by unfold maxLen; omega) (by omega) (by simp; exact Nat.le_succ_of_le HB.size) _ rfl ?_; intro g cap w2 hown2 hg2 hgb hlt2; have HO2 := Lib.hid hown2; have HG2 := Lib.hid hg2; clear hown2 hg2)
          go_roundg (s.size + 1 - (k + 1))
          case measure => omega
          case rel => 
            refine ⟨ps ++ [s.extract fr k], k + 1, k + 1, by omega, by omega, by go_num, by go_num, by omega, by simp; omega, by omega, HC.out, ?_, ?_⟩
            · show OwnRow _ _ _ _ _ _ _
              unfold OwnRow
              rw [List.flatMap_append, List.length_append]
              simpa using HO2.out
            · exact (HB.alloc HB.size _).grown HG2.out (by simp; exact Nat.le_succ_of_le HB.size) (fun k hk => ((HO.alloc (.cells #[.string (s.extract fr k)] tStr)).lt k hk).1)
        · have hf2 : ¬ (fr : Int) < (k : Int) := by omega
          have HC := Lib.hid (HS.cut0 (by omega) (.inr ⟨h1, h47⟩) hf)
          clear h47 e47
          go_wp2
          go_roundg (s.size + 1 - (k + 1))
          case measure => omega
          case rel => exact ⟨ps, k + 1, k + 1, by omega, by omega, by go_num, by go_num, by omega, by omega, by omega, HC.out, HO, HB⟩
      · have hq : ((s[k].toNat : Int) == 47) = false := by rw [beq_eq_false_iff_ne]; exact fun e => h47 (e47.1 (by omega))
        have HC := Lib.hid (HS.step h1 h47)
        clear h47 e47
        go_wp2
        go_roundg (s.size + 1 - (k + 1))
        case measure => omega
        case rel => exact ⟨ps, fr, k + 1, by omega, by omega, rfl, by go_num, by omega, by omega, by omega, HC.out, HO, HB⟩
end Go.Proofs.YtnbfenapnfbmeaaGreat
