/- Plain laws: pieces of a text between slashes, and clean paths. -/
import Derived.Test.YtnbfenapnfbmeaaGreatB0
namespace Go.Proofs.YtnbfenapnfbmeaaGreat
theorem cutAt_app (c : UInt8) (p r : List UInt8) (h : c ∉ p) : cutAt c (p ++ c :: r) = p :: cutAt c r := by
  induction p with
  | nil => simp [cutAt]
  | cons x l ih =>
    have hx : (x == c) = false := by simp; intro e; exact h (by simp [e])
    rw [List.cons_append, cutAt, hx, ih (fun hm => h (List.mem_cons_of_mem _ hm))]
    simp
theorem cutAt_one (c : UInt8) (p : List UInt8) (h : c ∉ p) : cutAt c p = [p] := by
  induction p with
  | nil => rfl
  | cons x l ih =>
    have hx : (x == c) = false := by simp; intro e; exact h (by simp [e])
    rw [cutAt, hx, ih (fun hm => h (List.mem_cons_of_mem _ hm))]
    simp
theorem cutAt_ne (c : UInt8) (l : List UInt8) : cutAt c l ≠ [] := by
  cases l with
  | nil => simp [cutAt]
  | cons x l =>
    rw [cutAt]
    split
    · simp
    · split <;> simp
/-- The pieces that are not empty. -/
def splitB (l : List UInt8) : List (List UInt8) := (cutAt 47 l).filter (fun p => !p.isEmpty)
def joinB (ps : List (List UInt8)) : List UInt8 := ps.flatMap (fun p => 47 :: p)
theorem joinB_cutAt (l : List UInt8) : joinB (cutAt 47 l) = 47 :: l := by
  induction l with
  | nil => rfl
  | cons x l ih =>
    rw [cutAt]
    by_cases hx : x = 47
    · subst hx
      rw [if_pos (by rfl)]
      show 47 :: [] ++ joinB (cutAt 47 l) = _
      rw [ih]
      rfl
    · rw [if_neg (by simpa using hx)]
      cases hc : cutAt 47 l with
      | nil => exact absurd hc (cutAt_ne _ _)
      | cons p ps =>
        rw [hc] at ih
        show 47 :: (x :: p) ++ joinB ps = _
        have h2 : 47 :: p ++ joinB ps = 47 :: l := ih
        rw [List.cons_append, List.cons_append]
        rw [List.cons_append] at h2
        rw [List.cons.injEq] at h2
        rw [h2.2]
theorem cutAt_joinB (p : List UInt8) (ps : List (List UInt8)) (h : ∀ q ∈ p :: ps, (47 : UInt8) ∉ q) : cutAt 47 (p ++ joinB ps) = p :: ps := by
  induction ps generalizing p with
  | nil => simp [joinB]; exact cutAt_one _ _ (h p (by simp))
  | cons q qs ih =>
    show cutAt 47 (p ++ 47 :: (q ++ joinB qs)) = _
    rw [cutAt_app _ _ _ (h p (by simp)), ih q (fun r hr => h r (List.mem_cons_of_mem _ hr))]
theorem nameB_no (p : List UInt8) (h : nameB p = true) : (47 : UInt8) ∉ p := by
  intro hm
  simp only [nameB, Bool.and_eq_true, List.all_eq_true] at h
  have := h.2 47 hm
  simp at this
theorem nameB_pos (p : List UInt8) (h : nameB p = true) : (!p.isEmpty) = true := by
  cases p with
  | nil => simp [nameB] at h
  | cons x l => rfl
theorem cleanB_eq (s : ByteArray) : cleanB s = ((splitB s.toList).all nameB && (s.toList == [47] || (!(splitB s.toList).isEmpty && s.toList == joinB (splitB s.toList)))) := by
  unfold cleanB
  generalize s.toList = l
  rw [Bool.eq_iff_iff]
  constructor
  · intro h
    rw [Bool.or_eq_true] at h
    rcases h with h | h
    · have := eq_of_beq h
      subst this
      simp [splitB, cutAt]
    · cases l with
      | nil => simp at h
      | cons x l =>
        by_cases hx : x = 47
        · subst hx
          simp only at h
          have e : splitB (47 :: l) = cutAt 47 l := by
            unfold splitB
            rw [cutAt, if_pos (by rfl)]
            rw [List.filter_cons_of_neg (by simp)]
            rw [List.filter_eq_self]
            intro q hq
            exact nameB_pos q (List.all_eq_true.1 h q hq)
          rw [e, h, joinB_cutAt]
          cases hc : cutAt 47 l with
          | nil => exact absurd hc (cutAt_ne _ _)
          | cons p ps => simp
        · split at h
          · rename_i h2
            cases h2
            exact absurd rfl hx
          · cases h
  · intro h
    rw [Bool.and_eq_true] at h
    rw [Bool.or_eq_true]
    obtain ⟨ha, h⟩ := h
    rw [Bool.or_eq_true] at h
    rcases h with h | h
    · exact .inl h
    · rw [Bool.and_eq_true] at h
      obtain ⟨h1, h2⟩ := h
      have h2 := eq_of_beq h2
      cases hs : splitB l with
      | nil => rw [hs] at h1; simp at h1
      | cons p ps =>
        rw [hs] at ha h2
        right
        have h3 : l = 47 :: (p ++ joinB ps) := h2
        rw [h3]
        simp only
        rw [cutAt_joinB p ps (fun q hq => nameB_no q (List.all_eq_true.1 ha q hq))]
        exact ha
theorem splitB_nil : splitB [] = [] := rfl
/-- One piece and its slash. -/
theorem splitB_app (p r : List UInt8) (h : (47 : UInt8) ∉ p) : splitB (p ++ 47 :: r) = (if p.isEmpty then [] else [p]) ++ splitB r := by
  unfold splitB
  rw [cutAt_app _ _ _ h]
  cases p <;> simp
theorem splitB_one (p : List UInt8) (h : (47 : UInt8) ∉ p) : splitB p = if p.isEmpty then [] else [p] := by
  unfold splitB
  rw [cutAt_one _ _ h]
  cases p <;> simp
end Go.Proofs.YtnbfenapnfbmeaaGreat
