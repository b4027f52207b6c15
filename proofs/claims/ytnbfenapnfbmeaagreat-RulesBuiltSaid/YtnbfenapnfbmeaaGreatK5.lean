/- Plain laws of lists of rules: what adding and removing do. -/
import Derived.Test.YtnbfenapnfbmeaaGreatH2
import Derived.Test.YtnbfenapnfbmeaaGreatK4
set_option linter.unusedSimpArgs false
set_option linter.unusedVariables false
namespace Go.Proofs.YtnbfenapnfbmeaaGreat
open Go.RowKit
/-- What is compared of a test, of a rule. -/
def testKey (t : Test) : Int × Int × Int × List UInt8 × Int := (t.field, t.op, t.num, t.text.toList, t.other)
def ruleKey (r : Rule) : Int × Int × Int × Int × List UInt8 × Int × List UInt8 × List (Int × Int × Int × List UInt8 × Int) := (r.list, r.action, r.calls, r.watch, r.path.toList, r.perm, r.key.toList, r.tests.map testKey)
theorem testEq_iff (a b : Test) : testEq a b = true ↔ testKey a = testKey b := by
  simp [testEq, testKey]
theorem testsEq_iff (a b : List Test) : testsEq a b = true ↔ a.map testKey = b.map testKey := by
  induction a generalizing b with
  | nil => cases b <;> simp [testsEq]
  | cons x l ih => cases b with
    | nil => simp [testsEq]
    | cons y m => simp [testsEq, testEq_iff, ih]
theorem ruleEq_iff (a b : Rule) : ruleEq a b = true ↔ ruleKey a = ruleKey b := by
  simp [ruleEq, ruleKey, testsEq_iff, and_assoc]
theorem ruleEq_symm (a b : Rule) : ruleEq a b = ruleEq b a := by
  rw [Bool.eq_iff_iff, ruleEq_iff, ruleEq_iff]
  exact eq_comm
theorem ruleEq_refl (a : Rule) : ruleEq a a = true := (ruleEq_iff a a).2 rfl
theorem findIdx_neg {α : Type} (p : α → Bool) (k : Nat) (l : List α) : findIdx p k l < 0 ↔ ∀ x ∈ l, p x = false := by
  induction l generalizing k with
  | nil => simp [findIdx]
  | cons x l ih =>
    rw [findIdx]
    cases h : p x
    · simp [h, ih]
    · simp [h]
theorem chk_iff (all l : List Rule) (pre : List Rule) (h : all = pre ++ l) :
    chkFrom all pre.length l = 0 ↔ (∀ r ∈ l, ruleCheck r = 0) ∧ l.Pairwise (fun a b => ruleEq a b = false) ∧ ∀ x ∈ pre, ∀ y ∈ l, ruleEq x y = false := by
  induction l generalizing pre with
  | nil => simp [chkFrom]
  | cons x l ih =>
    rw [chkFrom]
    have ht : all.take pre.length = pre := by rw [h]; simp
    have h2 := ih (pre ++ [x]) (by rw [h]; simp)
    rw [List.length_append, List.length_singleton] at h2
    rw [ht]
    by_cases hc : ruleCheck x = 0
    · rw [if_neg (by simp [hc])]
      by_cases hf : 0 ≤ findRule pre x
      · rw [if_pos hf]
        constructor
        · intro hh; cases hh
        · rintro ⟨_, _, h3⟩
          have : findRule pre x < 0 := (findIdx_neg _ _ _).2 (fun y hy => h3 y hy x (List.mem_cons_self ..))
          omega
      · rw [if_neg hf, h2]
        have hf2 := (findIdx_neg (fun y => ruleEq y x) 0 pre).1 (show findRule pre x < 0 by omega)
        constructor
        · rintro ⟨g1, g2, g3⟩
          refine ⟨fun r hr => ?_, List.pairwise_cons.2 ⟨fun y hy => g3 x (by simp) y hy, g2⟩, fun z hz y hy => ?_⟩
          · rcases List.mem_cons.1 hr with rfl | hr
            · exact hc
            · exact g1 r hr
          · rcases List.mem_cons.1 hy with rfl | hy
            · exact hf2 z hz
            · exact g3 z (List.mem_append_left _ hz) y hy
        · rintro ⟨g1, g2, g3⟩
          refine ⟨fun r hr => g1 r (List.mem_cons_of_mem _ hr), (List.pairwise_cons.1 g2).2, fun z hz y hy => ?_⟩
          rcases List.mem_append.1 hz with hz | hz
          · exact g3 z hz y (List.mem_cons_of_mem _ hy)
          · rw [List.mem_singleton.1 hz]
            exact (List.pairwise_cons.1 g2).1 y hy
    · rw [if_pos (by simpa using hc)]
      constructor
      · intro hh; exact absurd hh hc
      · rintro ⟨g1, _, _⟩; exact absurd (g1 x (List.mem_cons_self ..)) hc
/-- A list is sound: not too long, each rule sound, no two alike. -/
theorem check_iff (rs : List Rule) : rulesCheck rs = 0 ↔ rs.length ≤ 24 ∧ (∀ r ∈ rs, ruleCheck r = 0) ∧ rs.Pairwise (fun a b => ruleEq a b = false) := by
  unfold rulesCheck
  have h := chk_iff rs rs [] rfl
  by_cases hl : 24 < rs.length
  · rw [if_pos hl]
    constructor
    · intro hh; cases hh
    · rintro ⟨h1, _⟩; omega
  · rw [if_neg hl]
    simp only [List.length_nil] at h
    rw [h]
    constructor
    · rintro ⟨h1, h2, _⟩; exact ⟨by omega, h1, h2⟩
    · rintro ⟨_, h1, h2⟩; exact ⟨h1, h2, fun x hx => absurd hx List.not_mem_nil⟩
/-- What is said of a rule is said of it without the place of its tests. -/
theorem ruleKey_p {a b : Rule} (h : a.p = b.p) : ruleKey a = ruleKey b := by
  obtain ⟨a1, a2, a3, a4, a5, a6, a7, a8, a9, a10⟩ := a
  obtain ⟨b1, b2, b3, b4, b5, b6, b7, b8, b9, b10⟩ := b
  simp only [Rule.p, PRule.mk.injEq] at h
  obtain ⟨rfl, rfl, rfl, rfl, rfl, rfl, rfl, rfl⟩ := h
  rfl
theorem ruleCheck_p {a b : Rule} (h : a.p = b.p) : ruleCheck a = ruleCheck b := by
  obtain ⟨a1, a2, a3, a4, a5, a6, a7, a8, a9, a10⟩ := a
  obtain ⟨b1, b2, b3, b4, b5, b6, b7, b8, b9, b10⟩ := b
  simp only [Rule.p, PRule.mk.injEq] at h
  obtain ⟨rfl, rfl, rfl, rfl, rfl, rfl, rfl, rfl⟩ := h
  rfl
theorem ruleEq_p {a b c d : Rule} (h : a.p = b.p) (k : c.p = d.p) : ruleEq a c = ruleEq b d := by
  rw [Bool.eq_iff_iff, ruleEq_iff, ruleEq_iff, ruleKey_p h, ruleKey_p k]
theorem check_p {rs ss : List Rule} (h : rs.map Rule.p = ss.map Rule.p) : rulesCheck rs = 0 ↔ rulesCheck ss = 0 := by
  have hl : rs.length = ss.length := by have := congrArg List.length h; simpa using this
  have hp : ∀ (i : Nat) (h1 : i < rs.length) (h2 : i < ss.length), rs[i].p = ss[i].p := fun i h1 h2 => by
    have := congrArg (fun l => l[i]?) h
    simpa [h1, h2] using this
  rw [check_iff, check_iff]
  constructor
  · rintro ⟨h1, h2, h3⟩
    refine ⟨by omega, fun r hr => ?_, ?_⟩
    · obtain ⟨i, hi, rfl⟩ := List.getElem_of_mem hr
      rw [← ruleCheck_p (hp i (by omega) hi)]
      exact h2 _ (List.getElem_mem _)
    · rw [List.pairwise_iff_getElem] at h3 ⊢
      intro i j hi hj hij
      rw [← ruleEq_p (hp i (by omega) hi) (hp j (by omega) hj)]
      exact h3 i j (by omega) (by omega) hij
  · rintro ⟨h1, h2, h3⟩
    refine ⟨by omega, fun r hr => ?_, ?_⟩
    · obtain ⟨i, hi, rfl⟩ := List.getElem_of_mem hr
      rw [ruleCheck_p (hp i hi (by omega))]
      exact h2 _ (List.getElem_mem _)
    · rw [List.pairwise_iff_getElem] at h3 ⊢
      intro i j hi hj hij
      rw [ruleEq_p (hp i hi (by omega)) (hp j hj (by omega))]
      exact h3 i j (by omega) (by omega) hij
theorem find_p {rs ss : List Rule} {r s : Rule} (h : rs.map Rule.p = ss.map Rule.p) (k : r.p = s.p) : findRule rs r = findRule ss s := by
  unfold findRule
  generalize 0 = n
  induction rs generalizing ss n with
  | nil => cases ss with
    | nil => rfl
    | cons y m => cases h
  | cons x l ih => cases ss with
    | nil => cases h
    | cons y m =>
      simp only [List.map_cons, List.cons.injEq] at h
      rw [findIdx, findIdx, ruleEq_p h.1 k, ih h.2]
theorem code_parts {rs : List Rule} {r : Rule} (h : addCode rs r = 0) : rulesCheck rs = 0 ∧ ruleCheck r = 0 ∧ findRule rs r < 0 ∧ rs.length ≠ 24 := by
  unfold addCode at h
  by_cases h1 : rulesCheck rs = 0
  · rw [if_neg (by simp [h1])] at h
    by_cases h2 : ruleCheck r = 0
    · rw [if_neg (by simp [h2])] at h
      by_cases h3 : 0 ≤ findRule rs r
      · rw [if_pos h3] at h; cases h
      · rw [if_neg h3] at h
        by_cases h4 : rs.length = 24
        · rw [if_pos h4] at h; cases h
        · exact ⟨h1, h2, by omega, h4⟩
    · rw [if_pos (by simpa using h2)] at h; exact absurd h h2
  · rw [if_pos (by simpa using h1)] at h; exact absurd h h1
def addTo (rs : List Rule) (r : Rule) (front : Bool) : List Rule := if front then r :: rs else rs ++ [r]
theorem addList_yes {rs : List Rule} {r : Rule} {front : Bool} (h : addCode rs r = 0) : addList rs r front = (addTo rs r front).map Rule.p := by
  unfold addList addTo
  rw [if_pos h]
  cases front <;> simp
/-- A list to which a rule was added is sound. -/
theorem check_add {rs : List Rule} {r : Rule} (front : Bool) (h : addCode rs r = 0) : rulesCheck (addTo rs r front) = 0 := by
  obtain ⟨h1, h2, h3, h4⟩ := code_parts h
  obtain ⟨g1, g2, g3⟩ := (check_iff rs).1 h1
  have hn := (findIdx_neg _ _ _).1 h3
  rw [check_iff]
  unfold addTo
  cases front
  · simp only [Bool.false_eq_true, if_false]
    refine ⟨by simp; omega, fun x hx => ?_, List.pairwise_append.2 ⟨g3, List.pairwise_singleton _ _, fun a ha b hb => by rw [List.mem_singleton.1 hb]; exact hn a ha⟩⟩
    rcases List.mem_append.1 hx with hx | hx
    · exact g2 x hx
    · rw [List.mem_singleton.1 hx]; exact h2
  · simp only [if_true]
    refine ⟨by simp; omega, fun x hx => ?_, List.pairwise_cons.2 ⟨fun a ha => by rw [ruleEq_symm]; exact hn a ha, g3⟩⟩
    rcases List.mem_cons.1 hx with rfl | hx
    · exact h2
    · exact g2 x hx
/-- The rule is found where it was put. -/
theorem find_add {rs : List Rule} {r : Rule} (front : Bool) (h : addCode rs r = 0) : findRule (addTo rs r front) r = if front then 0 else (rs.length : Int) := by
  obtain ⟨_, _, h3, _⟩ := code_parts h
  have hn := (findIdx_neg _ _ _).1 h3
  unfold addTo findRule
  cases front
  · simp only [Bool.false_eq_true, if_false]
    have : ∀ (l : List Rule) (k : Nat), (∀ x ∈ l, ruleEq x r = false) → findIdx (fun x => ruleEq x r) k (l ++ [r]) = (k + l.length : Int) := by
      intro l
      induction l with
      | nil => intro k _; simp [findIdx, ruleEq_refl]
      | cons x l ih =>
        intro k hx
        rw [List.cons_append, findIdx, hx x (List.mem_cons_self ..), ih (k + 1) (fun y hy => hx y (List.mem_cons_of_mem _ hy))]
        simp
        omega
    have := this rs 0 hn
    simpa using this
  · simp [findIdx, ruleEq_refl]
/-- Taken away, the list is what it was. -/
theorem remove_add {rs ss : List Rule} {r : Rule} (front : Bool) (h : addCode rs r = 0) (hs : ss.map Rule.p = addList rs r front) : removeCode ss r = 0 ∧ removeList ss r = rs.map Rule.p := by
  rw [addList_yes h] at hs
  have hc := (check_p hs).2 (check_add front h)
  have hf : findRule ss r = if front then 0 else (rs.length : Int) := (find_p hs rfl).trans (find_add front h)
  have hcode : removeCode ss r = 0 := by
    unfold removeCode
    rw [if_neg (by simp [hc]), if_neg (by rw [hf]; cases front <;> simp)]
  refine ⟨hcode, ?_⟩
  unfold removeList
  rw [if_pos hcode, hs, hf]
  unfold addTo
  cases front
  · simp [List.eraseIdx_append_of_length_le]
  · simp
theorem code_other {rs : List Rule} {r : Rule} (h : rulesCheck rs = 0) (hr : ruleCheck r = 0) (hl : rs.length < 24) (hne : addCode rs r ≠ 0) : addCode rs r = 141 := by
  unfold addCode at hne ⊢
  rw [if_neg (by simp [h]), if_neg (by simp [hr])] at hne ⊢
  by_cases h3 : 0 ≤ findRule rs r
  · rw [if_pos h3]
  · rw [if_neg h3, if_neg (by omega)] at hne
    exact absurd rfl hne
end Go.Proofs.YtnbfenapnfbmeaaGreat
/- Contracts: the source of good rules and of lists (kauditmake). Printed by genK5main.py. -/
set_option linter.unusedSimpArgs false
set_option linter.unusedVariables false
namespace Go.Proofs.YtnbfenapnfbmeaaGreat
open Go.RowKit
section
variable {W V U : World} {p : Nat} {la : Option Addr} {xs : List Int} {lc n k m : Nat} {bs : List (Nat × Obj)}
theorem St.below (h : St W p la xs lc n k V m bs) (hb : Below V.heap.size V U) : St W p la xs lc n k U m bs :=
  h.step 0 (h.mill.src.below hb (Nat.le_refl _)) (Nat.le_refl _) (Moved.of_below hb (Nat.le_refl _))
theorem St.tests (h : St W p la xs lc n k V m bs) (hm : Moved p V U) : Keeps tTest V U := h.mill.src.keeps hm (by decide)
end
def GoodPost (W : World) (p : Nat) (la : Option Addr) (xs : List Int) (lc n : Nat) (e : Ending) (W' : World) : Prop :=
  ∃ (r : Rule) (n' : Nat), e = .returned r.v ∧ RuleAt W' r ∧ ruleCheck r = 0 ∧ Mill W p la xs lc n 800 W' n'
abbrev plainR : Rule := ⟨3, 1, 4294967295, none, 0, [], 0, ⟨#[]⟩, 0, ⟨#[]⟩⟩
theorem plainR_at (w : World) : RuleAt w plainR := ⟨⟨Nat.zero_le _, fun j hj => absurd hj (Nat.not_lt_zero _)⟩, fun _ => rfl, Nat.le_refl _, pathOk_nil, Nat.zero_le _⟩
theorem plainR_good : ruleCheck plainR = 0 := by decide +kernel
abbrev rvs (r : Rule) : Array Value := #[.int .i64 r.list, .int .i64 r.action, .int .u64 r.calls, .slice r.ta r.tests.length r.tc, .int .i64 r.watch, .string r.path, .int .i64 r.perm, .string r.key]
set_option maxRecDepth 100000 in
set_option maxHeartbeats 2000000 in
theorem c_good (p : Nat) (la : Option Addr) (xs : List Int) (lc n : Nat) (W : World) (hS : Src W p la xs lc n) (hn : n ≤ 999990000) :
    Calls Tryz.prog 27 #[.pointer (some ⟨p, 0, none⟩)] W (GoodPost W p la xs lc n) := by
  have HS := Lib.hid ((St.start hS).new (ruleBox zeroR))
  clear hS
  go_enter Tryz.func27, Tryz.ntmps27
  go_upto_region 1 with fail
  obtain ⟨W1, hW1⟩ : ∃ W1, W1 = W.alloc (ruleBox zeroR) := ⟨_, rfl⟩
  change Code.wp _ _ _ _ (W.alloc (ruleBox zeroR))
  rw [← hW1] at HS ⊢
  clear hW1
  go_wp2
  go_loopg [3] 8 (fun gg s3 wr => ∃ (k m : Nat), k + gg = 8 ∧ s3 = .int .i64 k ∧ Aside (St W p la xs lc n (100 * k) wr m [(W.heap.size, ruleBox zeroR)]))
  case atStart => exact ⟨0, n, rfl, rfl, HS.out⟩
  case round =>
    clear HS
    obtain ⟨k, m, hg, rfl, HS2⟩ := hrel
    have HS := Lib.hid HS2
    clear HS2
    have hle := HS.out.mill.le
    by_cases hk : (k : Int) < 8
    · go_upto_region 5 with (first | (go_at_call 17; refine (c_rule p la xs lc _ _ HS.out.mill.src (by omega)).mono ?_; rintro e w1 ⟨r, n1, rfl, hr, ⟨hS', hn', hm'⟩⟩; have HR := Lib.hid hr; have HS1 := Lib.hid (HS.out.step 100 hS' hn' hm'); have hle := HS1.out.mill.le; clear HS; have HS := HS1; clear HS1 hS' hn' hm' hr))
      have hne : w1.heap.size ≠ W.heap.size := Nat.ne_of_gt (lt_of_some HS.out.box)
      have HN := Lib.hid (HS.out.new (ruleBox r))
      have HRN := Lib.hid (HR.out.below ((Below.refl w1.heap.size w1).alloc (Nat.le_refl _) (ruleBox r)) (Nat.le_refl _))
      obtain ⟨W2, hW2⟩ : ∃ W2, W2 = w1.alloc (ruleBox r) := ⟨_, rfl⟩
      change Code.wp _ _ _ _ (w1.alloc (ruleBox r))
      rw [← hW2] at HN HRN ⊢
      clear HS HR hW2
      have hbl := lt_of_some HN.out.box
      have c := cell_of_block HN.out.box
      have k0 := c 0
      have k1 := c 1
      have k2 := c 2
      have k3 := c 3
      have k4 := c 4
      have k5 := c 5
      have k6 := c 6
      have k7 := c 7
      simp at k0 k1 k2 k3 k4 k5 k6 k7
      clear c
      by_cases hc : ruleCheck r = 0
      · go_wp2_with (first
          | (go_at_call 49; refine (c_rruleCheck r _ HRN.out).mono ?_; rintro e w2 ⟨rfl, hb⟩; have HM := Lib.hid (HN.out.below hb); have HRM := Lib.hid (HRN.out.below hb (Nat.le_refl _)); clear k0 k1 k2 k3 k4 k5 k6 k7 hb; have c := cell_of_block HM.out.box; have k0 := c 0; have k1 := c 1; have k2 := c 2; have k3 := c 3; have k4 := c 4; have k5 := c 5; have k6 := c 6; have k7 := c 7; simp at k0 k1 k2 k3 k4 k5 k6 k7; clear c)
          | (refine wpList_store_row (by rfl) 48 _ _ (by rfl) W.heap.size #[_, _, _, _, _, _, _, _] (by rfl) (by rfl) 48 _ HM.out.box2 (by kernel_rfl) (by rfl) (by kernel_rfl) ?_))
        have HZ1 := Lib.hid (HM.out.swap.row (cs' := rvs r) (by decide) (fun x hx => by rw [List.mem_singleton.1 hx]; exact hne))
        refine bodyPost_ret (v := r.v) (results_cell_row (p := 2) (ty := 48) (by kernel_rfl) _ _ W.heap.size _ _ _ _ (by rfl) HZ1.out.box Tryz.underlying48 rfl (by kernel_rfl)) rfl ?_
        exact ⟨r, _, rfl, HRM.out.keep (Keeps.grown (grown_setRow _ _ _) HM.out.box2 (by decide)), hc, HZ1.out.mill.up (by omega)⟩
      · go_wp2_with (first
          | (go_at_call 49; refine (c_rruleCheck r _ HRN.out).mono ?_; rintro e w2 ⟨rfl, hb⟩; have HM := Lib.hid (HN.out.below hb); clear hb))
        go_roundg (gk - 1)
        case measure => omega
        case rel => exact ⟨k + 1, _, by omega, by go_num, ⟨HM.out.mill.up (by omega), HM.out.hp, fun x hx => HM.out.at' x (List.mem_cons_of_mem _ hx)⟩⟩
    · have HZ1 := Lib.hid (HS.out.row (cs' := rvs plainR) (by decide) (fun x hx => absurd hx List.not_mem_nil))
      go_wp2_with (first | (refine wpList_store_row (by rfl) 48 _ _ (by rfl) W.heap.size #[_, _, _, _, _, _, _, _] (by rfl) (by rfl) 48 _ HS.out.box (by kernel_rfl) (by rfl) (by kernel_rfl) ?_))
      refine bodyPost_ret (v := plainR.v) (results_cell_row (p := 2) (ty := 48) (by kernel_rfl) _ _ W.heap.size _ _ _ _ (by rfl) HZ1.out.box Tryz.underlying48 rfl (by kernel_rfl)) rfl ?_
      exact ⟨plainR, _, rfl, plainR_at _, plainR_good, HZ1.out.mill.up (by omega)⟩
theorem RulesOwn.moved {p B : Nat} {W V : World} {v : Value} {rs : List Rule} (h : RulesOwn W B v rs) (hp : p < B) (hm : Moved p W V) (hk : Keeps tTest W V) : RulesOwn V B v rs := by
  refine ⟨h.1, World.ownsRow.kept (row := some p) h.2.1 hm ?_, fun r hr => (h.2.2 r hr).keep hk⟩
  cases hv : v.ownBlock with
  | none => exact .inl rfl
  | some q =>
    refine .inr (fun e => ?_)
    have := (World.ownsRow.lt h.2.1 q hv).1
    cases e
    omega
/-- A sound list that a source has made. -/
def RulesPost (W : World) (p : Nat) (la : Option Addr) (xs : List Int) (lc n most : Nat) (e : Ending) (W' : World) : Prop :=
  ∃ (v : Value) (rs : List Rule) (n' : Nat), e = .returned v ∧ RulesOwn W' W.heap.size v rs ∧ rs.length ≤ most ∧ rulesCheck rs = 0 ∧ Mill W p la xs lc n (1 + 801 * most) W' n'
set_option maxRecDepth 100000 in
set_option maxHeartbeats 2000000 in
theorem c_rules (p : Nat) (la : Option Addr) (xs : List Int) (lc n most : Nat) (W : World) (hS : Src W p la xs lc n) (hmost : most ≤ 24) (hn : n ≤ 999900000) :
    Calls Tryz.prog 8 #[.pointer (some ⟨p, 0, none⟩), .int .i64 most] W (RulesPost W p la xs lc n most) := by
  have hp := lt_of_some hS.blk
  go_enter Tryz.func8, Tryz.ntmps8
  go_wp2_with (first | (go_at_call 11; refine (c_n p la xs lc _ _ _ hS (by omega) (by omega) (by omega)).mono ?_; rintro e w1 ⟨y, n1, rfl, ⟨hy1, hy2⟩, hS', hn', hm'⟩; have HW := Lib.hid ((Mill.start hS).step hS' hn' hm'); clear hS' hn' hm'))
  clear hS
  go_loopg [5, 6] most (fun gg s5 s6 wr => ∃ (k : Nat) (rs : List Rule) (m : Nat), k + gg = most ∧ rs.length ≤ k ∧ s6 = .int .i64 (y - k) ∧ (k : Int) ≤ y ∧ Aside (RulesOwn wr W.heap.size s5 rs) ∧ Aside (rulesCheck rs = 0) ∧ Aside (Mill W p la xs lc n (1 + 801 * k) wr m))
  case atStart => exact ⟨0, [], n1, Nat.zero_add _, Nat.le_refl _, by go_num, by omega, RulesOwn.nil _ _, rfl, HW.out⟩
  case round =>
    clear HW
    obtain ⟨k, rs, m, hg, hlen, rfl, hk, HO, HC, HW2⟩ := hrel
    have HW := Lib.hid HW2
    clear HW2
    have hle := HW.out.le
    by_cases hlt : (0 : Int) < y - k
    · have hcap := HO.2.1
      obtain ⟨a, c, rfl, hnil, hl⟩ := HO.shape
      have HL := Lib.hid (And.intro hl (And.intro hcap.cap_le hnil))
      clear hl hcap hnil
      go_upto_region 6 with (first
        | (go_at_call 27; refine (c_good p la xs lc _ _ HW.out.src (by omega)).mono ?_; rintro e w1 ⟨r, n1, rfl, hr, hrc, hS', hn', hm'⟩; have HR := Lib.hid hr; have HW1 := Lib.hid (HW.out.step hS' hn' hm'); have hle1 := HW1.out.le; have HM1 := Lib.hid hm'; clear hS' hn' hm' hr)
        | (go_at_call 11; refine (c_n p la xs lc _ _ _ HW1.out.src (by omega) (by decide) (by decide)).mono ?_; rintro e w2 ⟨y, n2, rfl, ⟨hy1, hy2⟩, hS', hn', hm'⟩; have HW2 := Lib.hid (HW1.out.step hS' hn' hm'); have hle2 := HW2.out.le; have HM2 := Lib.hid (HM1.out.trans hm'); have HRA := Lib.hid (HR.out.keep (HW1.out.src.keeps hm' (by decide))); have HLA := Lib.hid (And.intro (HL.out.1.keep (HW.out.src.keeps HM2.out (by decide)) (HW.out.src.keeps HM2.out (by decide))) HL.out.2); clear hS' hn' hm')
        | (go_at_call 19; refine (c_radd a c rs r _ _ HLA.out.1 HLA.out.2.1 HLA.out.2.2 HRA.out).mono ?_; rintro e w3 ⟨v3, rs3, rfl, ho3, hp3, hb3⟩; have HO3 := Lib.hid ho3; have HP3 := Lib.hid hp3; have HB3 := Lib.hid hb3; clear ho3 hp3 hb3))
      have HW3 := Lib.hid (Mill.step HW2.out (HW2.out.src.below HB3.out (Nat.le_refl _)) (Nat.le_add_right _ 0) (Moved.of_below HB3.out (Nat.le_refl _)))
      by_cases hc : addCode rs r = 0
      · have HN := Lib.hid (show RulesOwn w3 W.heap.size v3 rs3 ∧ rs3.length = rs.length + 1 ∧ rulesCheck rs3 = 0 from by
          have h1 := HP3.out
          rw [addList_yes hc] at h1
          refine ⟨HO3.out.base HW2.out.moved.size, ?_, (check_p h1).2 (check_add _ hc)⟩
          have := congrArg List.length h1
          simp [addTo] at this
          split at this <;> simpa using this)
        have hl3 := HN.out.2.1
        clear HO HC
        go_wp2
        go_roundg (gk - 1)
        case measure => omega
        case rel => exact ⟨k + 1, rs3, _, by omega, by omega, by go_num, by omega, HN.out.1, HN.out.2.2, HW3.out.up (by omega)⟩
      · have HN := Lib.hid ((HO.moved hp HM2.out (HW.out.src.keeps HM2.out (by decide))).below HB3.out (Nat.le_refl _))
        clear HO
        go_wp2
        go_roundg (gk - 1)
        case measure => omega
        case rel => exact ⟨k + 1, rs, _, by omega, by omega, by go_num, by omega, HN.out, HC, HW3.out.up (by omega)⟩
    · go_wp2
      go_ret
      exact ⟨_, rs, m, rfl, HO, by omega, HC, HW.out.up (by omega)⟩
end Go.Proofs.YtnbfenapnfbmeaaGreat
