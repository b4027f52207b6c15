/- Contracts: names and clean paths of package path. -/
import Derived.Test.YtnbfenapnfbmeaaGreatN4
import Derived.Laws.Strings3
set_option linter.unusedSimpArgs false
set_option linter.unusedVariables false
namespace Go.Proofs.YtnbfenapnfbmeaaGreat
open Go.RowKit
def PathPost (w : World) (b : Bool) (e : Ending) (w' : World) : Prop := e = .returned (.bool b) ∧ Below w.heap.size w w'
def slashHead (s : ByteArray) : Bool := s.toList.head? == some 47
theorem head_one (s : ByteArray) (h : 1 ≤ s.size) : ((s.extract 0 1).toList == [47]) = slashHead s := by
  rw [toList_extract s 0 1 h]
  have hl := toList_len s
  unfold slashHead
  cases hs : s.toList with
  | nil => rw [hs] at hl; simp at hl; omega
  | cons x l => simp
set_option maxHeartbeats 1000000 in
theorem c_hasPrefix (s : ByteArray) (hs : s.size ≤ 1000000000) (w : World) : Calls Tryz.prog 130 #[.string s, .string ⟨#[47]⟩] w fun e w' => e = .returned (.bool (slashHead s)) ∧ w = w' := by
  go_enter Tryz.func130, Tryz.ntmps130
  rcases Nat.eq_zero_or_pos s.size with hz | hz
  · have hz3 : ¬ (1 : Int) ≤ (s.size : Int) := by omega
    have he : slashHead s = false := by
      have hl := toList_len s
      unfold slashHead
      cases hs : s.toList with
      | nil => rfl
      | cons x l => rw [hs] at hl; simp at hl; omega
    have HE := Lib.hid he
    clear he
    go_wp2
    go_ret
    exact ⟨ret_bool (by rw [HE.out]), rfl⟩
  · have hz3 : (1 : Int) ≤ (s.size : Int) := by omega
    have HE := Lib.hid (head_one s hz)
    go_wp2
    go_ret
    refine ⟨ret_bool ?_, rfl⟩
    exact HE.out
def CutPrefixPost (w : World) (s : ByteArray) (e : Ending) (w' : World) : Prop := ∃ a : ByteArray, e = .returned (.tuple #[.string a, .bool (slashHead s)]) ∧ (slashHead s = true → s.toList = 47 :: a.toList) ∧ (slashHead s = false → a = s) ∧ w' = w
theorem tail_one (s : ByteArray) (h : slashHead s = true) (hz : 1 ≤ s.size) : s.toList = 47 :: (s.extract 1 s.size).toList := by
  rw [toList_extract s 1 s.size (Nat.le_refl _), List.take_of_length_le (by rw [List.length_drop, toList_len]; omega)]
  unfold slashHead at h
  cases hs : s.toList with
  | nil => rw [hs] at h; simp at h
  | cons x l => rw [hs] at h; simp at h; simp [h]
set_option maxHeartbeats 1000000 in
theorem c_lcutPrefix (s : ByteArray) (hs : s.size ≤ 1000000000) (w : World) : Calls Tryz.prog 127 #[.string s, .string ⟨#[47]⟩] w (CutPrefixPost w s) := by
  go_enter Tryz.func127, Tryz.ntmps127
  cases hq : slashHead s
  · go_wp2_with (go_at_call 130; refine (c_hasPrefix s hs w).mono ?_; rintro e w' ⟨rfl, rfl⟩; rw [hq])
    go_ret2
    exact ⟨s, by rw [hq]; rfl, (fun h => by rw [hq] at h; cases h), (fun _ => rfl), rfl⟩
  · have hz : 1 ≤ s.size := by
      have hl := toList_len s
      have h2 := hq
      unfold slashHead at h2
      cases hs : s.toList with
      | nil => rw [hs] at h2; simp at h2
      | cons x l => rw [hs] at hl; simp at hl; omega
    have hz3 : (1 : Int) ≤ (s.size : Int) := by omega
    go_wp2_with (go_at_call 130; refine (c_hasPrefix s hs w).mono ?_; rintro e w' ⟨rfl, rfl⟩; rw [hq])
    go_ret2
    exact ⟨s.extract 1 s.size, by rw [hq]; rfl, (fun h => tail_one s h hz), (fun h => by rw [hq] at h; cases h), rfl⟩
set_option maxHeartbeats 1000000 in
theorem c_cutPrefix (s : ByteArray) (hs : s.size ≤ 1000000000) (w : World) : Calls Tryz.prog 120 #[.string s, .string ⟨#[47]⟩] w (CutPrefixPost w s) := by
  go_enter Tryz.func120, Tryz.ntmps120
  go_wp2_with (go_at_call 127; refine (c_lcutPrefix s hs w).mono ?_; rintro e w' ⟨a, rfl, hc, hd, rfl⟩; have HC := Lib.hid (And.intro hc hd); clear hc hd)
  go_ret2
  exact ⟨_, rfl, HC.out.1, HC.out.2, rfl⟩
theorem data_ascii (s : ByteArray) (h : ∀ x ∈ s.toList, x.toNat < 128) : ∀ (j : Nat) b, s.data.toList[j]? = some b → b.toNat < 128 := by
  intro j b hb
  apply h
  rw [ByteArray.toList_eq]
  exact List.mem_of_getElem? hb
set_option maxHeartbeats 1000000 in
theorem c_containsAny (s : ByteArray) (hs : PathOk s) (w : World) : Calls Tryz.prog 129 #[.string s, .string ⟨#[47, 0]⟩] w (PathPost w (!tailOk s.toList)) := by
  refine (Tryz.strings_ContainsAny_laid s ⟨#[47, 0]⟩ w (by have := hs.1; omega) (by decide) (data_ascii s hs.2) ?_).mono ?_
  · intro j b hb
    have : b ∈ ([47, 0] : List UInt8) := List.mem_of_getElem? hb
    rcases List.mem_cons.1 this with rfl | h
    · decide
    · rw [List.mem_singleton.1 h]
      decide
  · rintro e w' ⟨rfl, hB⟩
    refine ⟨ret_bool ?_, hB⟩
    rw [← contains_tail s.toList, ByteArray.toList_eq]
    simp
theorem leaf_bad (s : ByteArray) (h : s.toList = [] ∨ 12 < (s.size : Int) ∨ s.toList = [46] ∨ s.toList = [46, 46]) : nameB s.toList = false := by
  rw [nameB_split]
  have hl := toList_len s
  unfold headBad
  rcases h with h | h | h | h
  · have : s.size = 0 := by rw [← hl, h]; rfl
    rw [this]
    simp
  · rw [decide_eq_true h]
    simp
  · rw [h]
    simp
  · rw [h]
    simp
theorem leaf_good (s : ByteArray) (h0 : ¬ s.toList = []) (h1 : (s.size : Int) ≤ 12) (h2 : ¬ s.toList = [46]) (h3 : ¬ s.toList = [46, 46]) : nameB s.toList = tailOk s.toList := by
  rw [nameB_split]
  have hl := toList_len s
  have h4 : ¬ (s.size : Int) < 1 := by
    intro h
    apply h0
    rw [← List.length_eq_zero_iff]
    omega
  have h5 : ¬ 12 < (s.size : Int) := by omega
  unfold headBad
  rw [decide_eq_false h4, decide_eq_false h5, beq_false_of_ne h2, beq_false_of_ne h3]
  simp
set_option maxHeartbeats 1000000 in
theorem c_pname (s : ByteArray) (hs : PathOk s) (w : World) : Calls Tryz.prog 122 #[.string s] w (PathPost w (nameB s.toList)) := by
  have HN := Lib.hid (nameB_split s)
  have hsz := hs.1
  have HS := Lib.hid hs
  clear hs
  go_enter Tryz.func122, Tryz.ntmps122
  go_wp2_with (go_at_call 129; refine (c_containsAny s HS.out w).mono ?_; rintro e w' ⟨rfl, hb⟩; have HB := Lib.hid hb; clear hb)
  all_goals
    go_ret
    refine ⟨ret_bool ?_, ?_⟩
    · first
      | (rw [leaf_bad s (by simp [*])]; done)
      | (rw [leaf_good s (by assumption) (by assumption) (by assumption) (by assumption)]; simp [*])
    · first
      | exact HB.out
      | exact Below.refl _ _
/-- What the loop of Clean keeps. -/
structure Rest (s r : ByteArray) (ok : Bool) : Prop where
  fine : PathOk r
  yes : ok = true → cleanB s = (cutAt 47 r.toList).all nameB
  no : ok = false → cleanB s = false
theorem cleanB_cons (s : ByteArray) (h : (s.toList == [47]) = false) (l : List UInt8) (hl : s.toList = 47 :: l) : cleanB s = (cutAt 47 l).all nameB := by
  unfold cleanB
  rw [h, hl]
  rfl
theorem cleanB_nocons (s : ByteArray) (h : (s.toList == [47]) = false) (hl : slashHead s = false) : cleanB s = false := by
  unfold cleanB
  rw [h]
  unfold slashHead at hl
  cases hs : s.toList with
  | nil => rfl
  | cons x l =>
    rw [hs] at hl
    by_cases hx : x = 47
    · subst hx
      simp at hl
    · simp only [Bool.false_or]
      split
      · rename_i h2
        cases h2
        exact absurd rfl hx
      · rfl
theorem pathOk_of (s r : ByteArray) (hs : PathOk s) (h : ∃ p, s.toList = p ++ r.toList) : PathOk r := by
  obtain ⟨p, hp⟩ := h
  have hl := toList_len s
  have hl2 := toList_len r
  rw [hp] at hl
  rw [List.length_append] at hl
  refine ⟨by have := hs.1; omega, fun x hx => hs.2 x ?_⟩
  rw [hp]
  exact List.mem_append_right _ hx
theorem pathOk_pre (s r : ByteArray) (hs : PathOk s) (h : ∃ p, s.toList = r.toList ++ p) : PathOk r := by
  obtain ⟨p, hp⟩ := h
  have hl := toList_len s
  have hl2 := toList_len r
  rw [hp] at hl
  rw [List.length_append] at hl
  refine ⟨by have := hs.1; omega, fun x hx => hs.2 x ?_⟩
  rw [hp]
  exact List.mem_append_left _ hx
theorem Rest.start (s a : ByteArray) (h : (s.toList == [47]) = false) (hs : PathOk s) (ha : PathOk a) (hc : slashHead s = true → s.toList = 47 :: a.toList) : Rest s a (slashHead s) :=
  ⟨ha, fun e => cleanB_cons s h _ (hc e), fun e => cleanB_nocons s h e⟩
theorem Rest.step {s r b a : ByteArray} (h : Rest s r true) (hc : CutAt r b a true) : cleanB s = (nameB b.toList && (cutAt 47 a.toList).all nameB) := by
  obtain ⟨h1, h2⟩ := hc.yes rfl
  rw [h.yes rfl, h1, cutAt_app _ _ _ h2]
  rfl
theorem Rest.last {s r b a : ByteArray} (h : Rest s r true) (hc : CutAt r b a false) : cleanB s = nameB b.toList := by
  obtain ⟨h1, h2⟩ := hc.no rfl
  rw [h.yes rfl, cutAt_one _ _ h2, h1]
  simp
theorem Rest.none {s r : ByteArray} (h : Rest s r true) (hr : r.toList = []) : cleanB s = false := by
  rw [h.yes rfl, hr]
  rfl
set_option maxRecDepth 100000 in
set_option maxHeartbeats 1000000 in
theorem c_pclean (s : ByteArray) (hs : PathOk s) (w : World) : Calls Tryz.prog 90 #[.string s] w (PathPost w (cleanB s)) := by
  have hsz := hs.1
  have HS := Lib.hid hs
  clear hs
  go_enter Tryz.func90, Tryz.ntmps90
  cases hq : (s.toList == [47])
  case true =>
    go_wp2
    go_ret
    exact ⟨ret_bool (by unfold cleanB; rw [hq]; rfl), Below.refl _ _⟩
  case false =>
    have HQ := Lib.hid hq
    go_wp2_with (go_at_call 120; refine (c_cutPrefix s hsz w).mono ?_; rintro e w' ⟨a, rfl, hc, hd, rfl⟩; have HC := Lib.hid (And.intro hc hd); clear hc hd)
    have hrest : Rest s a (slashHead s) := Rest.start s a HQ.out HS.out (by
      cases hh : slashHead s with
      | false => rw [HC.out.2 hh]; exact HS.out
      | true => exact pathOk_of s a HS.out ⟨[47], by rw [HC.out.1 hh]; rfl⟩) HC.out.1
    have HR := Lib.hid hrest
    clear hrest HC
    generalize slashHead s = ok0 at HR ⊢
    go_loopg [3] (a.size) (fun gg rv wr => ∃ (r : ByteArray), r.size ≤ gg ∧ rv = .string r ∧ Aside (Rest s r ok0) ∧ Aside (Below w'.heap.size w' wr))
    case atStart => exact ⟨a, Nat.le_refl _, rfl, HR.out, Below.refl _ _⟩
    case round =>
      obtain ⟨r, hg, rfl, HT, HB⟩ := hrel
      cases ok0 with
      | false =>
        go_wp2
        go_ret
        exact ⟨ret_bool (HT.no rfl).symm, HB⟩
      | true =>
        have hro := HT.fine
        have hrs := hro.1
        have HRO := Lib.hid hro
        clear hro
        rcases Classical.em (r.toList = []) with hr | hr
        · have hr2 : (r.toList == []) = true := by rw [hr]; rfl
          have HF := Lib.hid (HT.none hr)
          go_wp2
          go_ret
          exact ⟨ret_bool HF.out.symm, HB⟩
        · have hr3 : r.toList.isEmpty = false := by rw [List.isEmpty_eq_false_iff]; exact hr
          have hcut := c_cut r hrs wr
          go_upto_region 6 with (go_at_call 121; refine hcut.mono ?_; rintro e w1 ⟨b, c, m, rfl, hca, hb1⟩; have HCA := Lib.hid hca; have HB1 := Lib.hid (Below.trans HB (hb1.mono HB.size)); clear hca hb1)
          clear hcut
          cases m with
          | false =>
            have hbo : PathOk b := by rw [(HCA.out.no rfl).1]; exact HRO.out
            have hcn := c_pname b hbo w1
            have HL := Lib.hid (HT.last HCA.out)
            clear hbo
            cases hn : nameB b.toList with
            | false =>
              rw [hn] at hcn HL
              go_wp2_with (go_at_call 122; refine hcn.mono ?_; rintro e w2 ⟨rfl, hb2⟩)
              go_ret
              exact ⟨ret_bool HL.out.symm, HB1.out.trans (hb2.mono HB1.out.size)⟩
            | true =>
              rw [hn] at hcn HL
              go_wp2_with (go_at_call 122; refine hcn.mono ?_; rintro e w2 ⟨rfl, hb2⟩)
              go_ret
              exact ⟨ret_bool HL.out.symm, HB1.out.trans (hb2.mono HB1.out.size)⟩
          | true =>
            obtain ⟨h1, h2⟩ := HCA.out.yes rfl
            have hbo : PathOk b := pathOk_pre r b HRO.out ⟨_, h1⟩
            have hco : PathOk c := pathOk_of r c HRO.out ⟨b.toList ++ [47], by rw [h1]; simp⟩
            have hlt : c.size < r.size := by
              rw [← toList_len c, ← toList_len r, h1]
              simp
              omega
            have hcn := c_pname b hbo w1
            have HL := Lib.hid (HT.step HCA.out)
            have HCO := Lib.hid hco
            clear hbo h1 h2 hco
            cases hn : nameB b.toList with
            | false =>
              rw [hn] at hcn HL
              go_wp2_with (go_at_call 122; refine hcn.mono ?_; rintro e w2 ⟨rfl, hb2⟩)
              go_ret
              exact ⟨ret_bool HL.out.symm, HB1.out.trans (hb2.mono HB1.out.size)⟩
            | true =>
              rw [hn] at hcn HL
              cases hce : (c.toList == []) with
              | true =>
                have HE := Lib.hid hce
                go_wp2_with (go_at_call 122; refine hcn.mono ?_; rintro e w2 ⟨rfl, hb2⟩)
                go_ret
                refine ⟨ret_bool ?_, HB1.out.trans (hb2.mono HB1.out.size)⟩
                rw [HL.out, eq_of_beq HE.out]
                rfl
              | false =>
                go_wp2_with (go_at_call 122; refine hcn.mono ?_; rintro e w2 ⟨rfl, hb2⟩)
                go_roundg c.size
                case measure => omega
                case rel => exact ⟨c, Nat.le_refl _, rfl, ⟨HCO.out, fun _ => (by rw [HL.out]; simp), fun e => (by cases e)⟩, HB1.out.trans (hb2.mono HB1.out.size)⟩
end Go.Proofs.YtnbfenapnfbmeaaGreat
