/- Plain laws of lists of rules: what adding and removing do. -/
import Derived.Test.YtnbfenapnfbmeaaGreatH2
set_option linter.unusedSimpArgs false
set_option linter.unusedVariables false
namespace Go.Proofs.YtnbfenapnfbmeaaGreat
open Go.RowKit
/-- What is compared of a test, of a rule. -/
def testKey (t : Test) : Int × Int × Int × List UInt8 × Int := (t.field, t.op, t.num, t.text.toList, t.other)
def ruleKey (r : Rule) : Int × Int × Int × Int × List UInt8 × Int × List UInt8 × List (Int × Int × Int × List UInt8 × Int) := (r.list, r.action, r.calls, r.watch, r.path.toList, r.perm, r.key.toList, r.tests.map testKey)
theorem testEq_iff (a b : Test) : testEq a b = true ↔ testKey a = testKey b := by
  simp [testEq, testKey]
theorem testsEq_iff (a b : List Test) : testsEq a b = true ↔ a.map testKey = b.map testKey := by
  induction a generalizing b with
  | nil => cases b <;> simp [testsEq]
  | cons x l ih => cases b with
    | nil => simp [testsEq]
    | cons y m => simp [testsEq, testEq_iff, ih]
theorem ruleEq_iff (a b : Rule) : ruleEq a b = true ↔ ruleKey a = ruleKey b := by
  simp [ruleEq, ruleKey, testsEq_iff, and_assoc]
theorem ruleEq_symm (a b : Rule) : ruleEq a b = ruleEq b a := by
  rw [Bool.eq_iff_iff, ruleEq_iff, ruleEq_iff]
  exact eq_comm
theorem ruleEq_refl (a : Rule) : ruleEq a a = true := (ruleEq_iff a a).2 rfl
theorem findIdx_neg {α : Type} (p : α → Bool) (k : Nat) (l : List α) : findIdx p k l < 0 ↔ ∀ x ∈ l, p x = false := by
  induction l generalizing k with
  | nil => simp [findIdx]
  | cons x l ih =>
    rw [findIdx]
    cases h : p x
    · simp [h, ih]
    · simp [h]
theorem chk_iff (all l : List Rule) (pre : List Rule) (h : all = pre ++ l) :
    chkFrom all pre.length l = 0 ↔ (∀ r ∈ l, ruleCheck r = 0) ∧ l.Pairwise (fun a b => ruleEq a b = false) ∧ ∀ x ∈ pre, ∀ y ∈ l, ruleEq x y = false := by
  induction l generalizing pre with
  | nil => simp [chkFrom]
  | cons x l ih =>
    rw [chkFrom]
    have ht : all.take pre.length = pre := by rw [h]; simp
    have h2 := ih (pre ++ [x]) (by rw [h]; simp)
    rw [List.length_append, List.length_singleton] at h2
    rw [ht]
    by_cases hc : ruleCheck x = 0
    · rw [if_neg (by simp [hc])]
      by_cases hf : 0 ≤ findRule pre x
      · rw [if_pos hf]
        constructor
        · intro hh; cases hh
        · rintro ⟨_, _, h3⟩
          have : findRule pre x < 0 := (findIdx_neg _ _ _).2 (fun y hy => h3 y hy x (List.mem_cons_self ..))
          omega
      · rw [if_neg hf, h2]
        have hf2 := (findIdx_neg (fun y => ruleEq y x) 0 pre).1 (show findRule pre x < 0 by omega)
        constructor
        · rintro ⟨g1, g2, g3⟩
          refine ⟨fun r hr => ?_, List.pairwise_cons.2 ⟨fun y hy => g3 x (by simp) y hy, g2⟩, fun z hz y hy => ?_⟩
          · rcases List.mem_cons.1 hr with rfl | hr
            · exact hc
            · exact g1 r hr
          · rcases List.mem_cons.1 hy with rfl | hy
            · exact hf2 z hz
            · exact g3 z (List.mem_append_left _ hz) y hy
        · rintro ⟨g1, g2, g3⟩
          refine ⟨fun r hr => g1 r (List.mem_cons_of_mem _ hr), (List.pairwise_cons.1 g2).2, fun z hz y hy => ?_⟩
          rcases List.mem_append.1 hz with hz | hz
          · exact g3 z hz y (List.mem_cons_of_mem _ hy)
          · rw [List.mem_singleton.1 hz]
            exact (List.pairwise_cons.1 g2).1 y hy
    · rw [if_pos (by simpa using hc)]
      constructor
      · intro hh; exact absurd hh hc
      · rintro ⟨g1, _, _⟩; exact absurd (g1 x (List.mem_cons_self ..)) hc
/-- A list is sound: not too long, each rule sound, no two alike. -/
theorem check_iff (rs : List Rule) : rulesCheck rs = 0 ↔ rs.length ≤ 24 ∧ (∀ r ∈ rs, ruleCheck r = 0) ∧ rs.Pairwise (fun a b => ruleEq a b = false) := by
  unfold rulesCheck
  have h := chk_iff rs rs [] rfl
  by_cases hl : 24 < rs.length
  · rw [if_pos hl]
    constructor
    · intro hh; cases hh
    · rintro ⟨h1, _⟩; omega
  · rw [if_neg hl]
    simp only [List.length_nil] at h
    rw [h]
    constructor
    · rintro ⟨h1, h2, _⟩; exact ⟨by omega, h1, h2⟩
    · rintro ⟨_, h1, h2⟩; exact ⟨h1, h2, fun x hx => absurd hx List.not_mem_nil⟩
/-- What is said of a rule is said of it without the place of its tests. -/
theorem ruleKey_p {a b : Rule} (h : a.p = b.p) : ruleKey a = ruleKey b := by
  obtain ⟨a1, a2, a3, a4, a5, a6, a7, a8, a9, a10⟩ := a
  obtain ⟨b1, b2, b3, b4, b5, b6, b7, b8, b9, b10⟩ := b
  simp only [Rule.p, PRule.mk.injEq] at h
  obtain ⟨rfl, rfl, rfl, rfl, rfl, rfl, rfl, rfl⟩ := h
  rfl
theorem ruleCheck_p {a b : Rule} (h : a.p = b.p) : ruleCheck a = ruleCheck b := by
  obtain ⟨a1, a2, a3, a4, a5, a6, a7, a8, a9, a10⟩ := a
  obtain ⟨b1, b2, b3, b4, b5, b6, b7, b8, b9, b10⟩ := b
  simp only [Rule.p, PRule.mk.injEq] at h
  obtain ⟨rfl, rfl, rfl, rfl, rfl, rfl, rfl, rfl⟩ := h
  rfl
theorem ruleEq_p {a b c d : Rule} (h : a.p = b.p) (k : c.p = d.p) : ruleEq a c = ruleEq b d := by
  rw [Bool.eq_iff_iff, ruleEq_iff, ruleEq_iff, ruleKey_p h, ruleKey_p k]
theorem check_p {rs ss : List Rule} (h : rs.map Rule.p = ss.map Rule.p) : rulesCheck rs = 0 ↔ rulesCheck ss = 0 := by
  have hl : rs.length = ss.length := by have := congrArg List.length h; simpa using this
  have hp : ∀ (i : Nat) (h1 : i < rs.length) (h2 : i < ss.length), rs[i].p = ss[i].p := fun i h1 h2 => by
    have := congrArg (fun l => l[i]?) h
    simpa [h1, h2] using this
  rw [check_iff, check_iff]
  constructor
  · rintro ⟨h1, h2, h3⟩
    refine ⟨by omega, fun r hr => ?_, ?_⟩
    · obtain ⟨i, hi, rfl⟩ := List.getElem_of_mem hr
      rw [← ruleCheck_p (hp i (by omega) hi)]
      exact h2 _ (List.getElem_mem _)
    · rw [List.pairwise_iff_getElem] at h3 ⊢
      intro i j hi hj hij
      rw [← ruleEq_p (hp i (by omega) hi) (hp j (by omega) hj)]
      exact h3 i j (by omega) (by omega) hij
  · rintro ⟨h1, h2, h3⟩
    refine ⟨by omega, fun r hr => ?_, ?_⟩
    · obtain ⟨i, hi, rfl⟩ := List.getElem_of_mem hr
      rw [ruleCheck_p (hp i hi (by omega))]
      exact h2 _ (List.getElem_mem _)
    · rw [List.pairwise_iff_getElem] at h3 ⊢
      intro i j hi hj hij
      rw [ruleEq_p (hp i hi (by omega)) (hp j hj (by omega))]
      exact h3 i j (by omega) (by omega) hij
theorem find_p {rs ss : List Rule} {r s : Rule} (h : rs.map Rule.p = ss.map Rule.p) (k : r.p = s.p) : findRule rs r = findRule ss s := by
  unfold findRule
  generalize 0 = n
  induction rs generalizing ss n with
  | nil => cases ss with
    | nil => rfl
    | cons y m => cases h
  | cons x l ih => cases ss with
    | nil => cases h
    | cons y m =>
      simp only [List.map_cons, List.cons.injEq] at h
      rw [findIdx, findIdx, ruleEq_p h.1 k, ih h.2]
theorem code_parts {rs : List Rule} {r : Rule} (h : addCode rs r = 0) : rulesCheck rs = 0 ∧ ruleCheck r = 0 ∧ findRule rs r < 0 ∧ rs.length ≠ 24 := by
  unfold addCode at h
  by_cases h1 : rulesCheck rs = 0
  · rw [if_neg (by simp [h1])] at h
    by_cases h2 : ruleCheck r = 0
    · rw [if_neg (by simp [h2])] at h
      by_cases h3 : 0 ≤ findRule rs r
      · rw [if_pos h3] at h; cases h
      · rw [if_neg h3] at h
        by_cases h4 : rs.length = 24
        · rw [if_pos h4] at h; cases h
        · exact ⟨h1, h2, by omega, h4⟩
    · rw [if_pos (by simpa using h2)] at h; exact absurd h h2
  · rw [if_pos (by simpa using h1)] at h; exact absurd h h1
def addTo (rs : List Rule) (r : Rule) (front : Bool) : List Rule := if front then r :: rs else rs ++ [r]
theorem addList_yes {rs : List Rule} {r : Rule} {front : Bool} (h : addCode rs r = 0) : addList rs r front = (addTo rs r front).map Rule.p := by
  unfold addList addTo
  rw [if_pos h]
  cases front <;> simp
/-- A list to which a rule was added is sound. -/
theorem check_add {rs : List Rule} {r : Rule} (front : Bool) (h : addCode rs r = 0) : rulesCheck (addTo rs r front) = 0 := by
  obtain ⟨h1, h2, h3, h4⟩ := code_parts h
  obtain ⟨g1, g2, g3⟩ := (check_iff rs).1 h1
  have hn := (findIdx_neg _ _ _).1 h3
  rw [check_iff]
  unfold addTo
  cases front
  · simp only [Bool.false_eq_true, if_false]
    refine ⟨by simp; omega, fun x hx => ?_, List.pairwise_append.2 ⟨g3, List.pairwise_singleton _ _, fun a ha b hb => by rw [List.mem_singleton.1 hb]; exact hn a ha⟩⟩
    rcases List.mem_append.1 hx with hx | hx
    · exact g2 x hx
    · rw [List.mem_singleton.1 hx]; exact h2
  · simp only [if_true]
    refine ⟨by simp; omega, fun x hx => ?_, List.pairwise_cons.2 ⟨fun a ha => by rw [ruleEq_symm]; exact hn a ha, g3⟩⟩
    rcases List.mem_cons.1 hx with rfl | hx
    · exact h2
    · exact g2 x hx
/-- The rule is found where it was put. -/
theorem find_add {rs : List Rule} {r : Rule} (front : Bool) (h : addCode rs r = 0) : findRule (addTo rs r front) r = if front then 0 else (rs.length : Int) := by
  obtain ⟨_, _, h3, _⟩ := code_parts h
  have hn := (findIdx_neg _ _ _).1 h3
  unfold addTo findRule
  cases front
  · simp only [Bool.false_eq_true, if_false]
    have : ∀ (l : List Rule) (k : Nat), (∀ x ∈ l, ruleEq x r = false) → findIdx (fun x => ruleEq x r) k (l ++ [r]) = (k + l.length : Int) := by
      intro l
      induction l with
      | nil => intro k _; simp [findIdx, ruleEq_refl]
      | cons x l ih =>
        intro k hx
        rw [List.cons_append, findIdx, hx x (List.mem_cons_self ..), ih (k + 1) (fun y hy => hx y (List.mem_cons_of_mem _ hy))]
        simp
        omega
    have := this rs 0 hn
    simpa using this
  · simp [findIdx, ruleEq_refl]
/-- Taken away, the list is what it was. -/
theorem remove_add {rs ss : List Rule} {r : Rule} (front : Bool) (h : addCode rs r = 0) (hs : ss.map Rule.p = addList rs r front) : removeCode ss r = 0 ∧ removeList ss r = rs.map Rule.p := by
  rw [addList_yes h] at hs
  have hc := (check_p hs).2 (check_add front h)
  have hf : findRule ss r = if front then 0 else (rs.length : Int) := (find_p hs rfl).trans (find_add front h)
  have hcode : removeCode ss r = 0 := by
    unfold removeCode
    rw [if_neg (by simp [hc]), if_neg (by rw [hf]; cases front <;> simp)]
  refine ⟨hcode, ?_⟩
  unfold removeList
  rw [if_pos hcode, hs, hf]
  unfold addTo
  cases front
  · simp [List.eraseIdx_append_of_length_le]
  · simp
theorem code_other {rs : List Rule} {r : Rule} (h : rulesCheck rs = 0) (hr : ruleCheck r = 0) (hl : rs.length < 24) (hne : addCode rs r ≠ 0) : addCode rs r = 141 := by
  unfold addCode at hne ⊢
  rw [if_neg (by simp [h]), if_neg (by simp [hr])] at hne ⊢
  by_cases h3 : 0 ≤ findRule rs r
  · rw [if_pos h3]
  · rw [if_neg h3, if_neg (by omega)] at hne
    exact absurd rfl hne
end Go.Proofs.YtnbfenapnfbmeaaGreat
