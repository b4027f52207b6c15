/- Contracts: a rule is added to a list (the program). -/
import Derived.Test.YtnbfenapnfbmeaaGreatF2
import Derived.Test.YtnbfenapnfbmeaaGreatD2
set_option linter.unusedSimpArgs false
set_option linter.unusedVariables false
namespace Go.Proofs.YtnbfenapnfbmeaaGreat
open Go.RowKit
theorem c_insB (B n : Nat) (a : Option Addr) (rs : List Rule) (vb : Nat) (r : Rule) (w : World) (hn : rs.length = n) (hB : B ≤ w.heap.size) (hl : rs.length ≤ 1000) (h : RulesOwn w B (.slice a n n) rs) (hr : RuleAt w r) (hv : w.heap[vb]? = some (ruleBox r)) :
    Calls Tryz.prog 46 #[.slice a n n, .int .i64 n, .slice (some ⟨vb, 0, none⟩) 1 1] w (InsPost w B (rs ++ [r])) := by
  subst hn
  exact c_insert_back B a rs vb r w hB hl h hr hv
theorem c_insF (B n : Nat) (a : Option Addr) (rs : List Rule) (vb : Nat) (r : Rule) (w : World) (hn : rs.length = n) (hB : B ≤ w.heap.size) (hl : rs.length ≤ 1000) (h : RulesOwn w B (.slice a n n) rs) (hr : RuleAt w r) (hv : w.heap[vb]? = some (ruleBox r)) :
    Calls Tryz.prog 46 #[.slice a n n, .int .i64 0, .slice (some ⟨vb, 0, none⟩) 1 1] w (InsPost w B (r :: rs)) := by
  subst hn
  cases rs with
  | nil => exact c_insert_back B a [] vb r w hB hl h hr hv
  | cons x l =>
    cases a with
    | none =>
      rcases h.2.1.2 with ⟨_, hn⟩ | ⟨g, cap, cur, he, _⟩
      · simp at hn
      · cases he
    | some ad => exact c_insert_front B ad (x :: l) vb r w hB (by simp) hl h hr hv
set_option maxRecDepth 100000 in
set_option maxHeartbeats 4000000 in
theorem c_padd_no (a : Option Addr) (c : Nat) (rs : List Rule) (r : Rule) (front : Bool) (w : World) (hl : RulesAt w a rs) (hc : rs.length ≤ c) (hr : RuleAt w r) (hno : addCode rs r ≠ 0) :
    Calls Tryz.prog 18 #[.slice a rs.length c, r.v, .bool front] w (ListPost w (addList rs r front) (addCode rs r)) := by
  have hl1 := hl.1
  have HL := Lib.hid hl
  have HR := Lib.hid hr
  have HC := Lib.hid hc
  have HLIST : Hid (addList rs r front = []) := Lib.hid (by unfold addList; rw [if_neg hno])
  clear hl hr hc
  have HA := Lib.hid (BoxAt.new w r)
  have hcode : addCode rs r = if rulesCheck rs != 0 then rulesCheck rs else if ruleCheck r != 0 then ruleCheck r else if 0 ≤ findRule rs r then 141 else if rs.length = 24 then 140 else 0 := rfl
  rcases (by cases rulesCheck rs != 0 <;> simp : (rulesCheck rs != 0) = true ∨ (rulesCheck rs != 0) = false) with q1 | q1
  rotate_left
  rcases (by cases ruleCheck r != 0 <;> simp : (ruleCheck r != 0) = true ∨ (ruleCheck r != 0) = false) with q2 | q2
  rotate_left
  rcases (by omega : 0 ≤ findRule rs r ∨ findRule rs r < 0) with q3 | q3
  rotate_left
  rcases (by omega : rs.length = 24 ∨ rs.length ≠ 24) with q4 | q4
  case inr.inr.inr.inr => exact absurd (by rw [hcode]; simp [q1, q2, q4]; omega) hno
  case inr.inr.inr.inl =>
    have q5 : (24 : Int) ≤ (rs.length : Int) := by omega
    have HD := Lib.hid (show addCode rs r = 140 by rw [hcode]; simp [q1, q2, q4]; omega)
    clear hno hcode q4
    go_enter Tryz.func18, Tryz.ntmps18
    go_wp2_with (first
      | (go_at_call 25; refine (c_check a c rs _ (HL.out.below HA.out.below (Nat.le_refl _)) HC.out).mono ?_; rintro e w' ⟨rfl, hb'⟩; have HA' := Lib.hid (HA.out.step hb'); clear HA hb'; (try clear k0 k1 k2 k3 k4 k5 k6 k7); have HA := HA'; clear HA'; obtain ⟨k0, k1, k2, k3, k4, k5, k6, k7⟩ := HA.out.cells)
      | (go_at_call 45; refine (c_ruleCheck r _ (HR.out.below HA.out.below (Nat.le_refl _))).mono ?_; rintro e w' ⟨rfl, hb'⟩; have HA' := Lib.hid (HA.out.step hb'); clear HA hb'; (try clear k0 k1 k2 k3 k4 k5 k6 k7); have HA := HA'; clear HA'; obtain ⟨k0, k1, k2, k3, k4, k5, k6, k7⟩ := HA.out.cells)
      | (go_at_call 23; refine (c_pfind a c rs r _ (HL.out.below HA.out.below (Nat.le_refl _)) (HR.out.below HA.out.below (Nat.le_refl _))).mono ?_; rintro e w' ⟨rfl, hb'⟩; have HA' := Lib.hid (HA.out.step hb'); clear HA hb'; (try clear k0 k1 k2 k3 k4 k5 k6 k7); have HA := HA'; clear HA'; obtain ⟨k0, k1, k2, k3, k4, k5, k6, k7⟩ := HA.out.cells))
    go_ret2
    exact ⟨.slice none 0 0, [], (by rw [HD.out]; rfl), RulesOwn.nil _ _, HLIST.out.symm, HA.out.below⟩
  case inr.inr.inl =>
    have HD := Lib.hid (show addCode rs r = 141 by rw [hcode]; rw [if_neg (by simp [q1]), if_neg (by simp [q2]), if_pos q3])
    clear hno hcode
    go_enter Tryz.func18, Tryz.ntmps18
    go_wp2_with (first
      | (go_at_call 25; refine (c_check a c rs _ (HL.out.below HA.out.below (Nat.le_refl _)) HC.out).mono ?_; rintro e w' ⟨rfl, hb'⟩; have HA' := Lib.hid (HA.out.step hb'); clear HA hb'; (try clear k0 k1 k2 k3 k4 k5 k6 k7); have HA := HA'; clear HA'; obtain ⟨k0, k1, k2, k3, k4, k5, k6, k7⟩ := HA.out.cells)
      | (go_at_call 45; refine (c_ruleCheck r _ (HR.out.below HA.out.below (Nat.le_refl _))).mono ?_; rintro e w' ⟨rfl, hb'⟩; have HA' := Lib.hid (HA.out.step hb'); clear HA hb'; (try clear k0 k1 k2 k3 k4 k5 k6 k7); have HA := HA'; clear HA'; obtain ⟨k0, k1, k2, k3, k4, k5, k6, k7⟩ := HA.out.cells)
      | (go_at_call 23; refine (c_pfind a c rs r _ (HL.out.below HA.out.below (Nat.le_refl _)) (HR.out.below HA.out.below (Nat.le_refl _))).mono ?_; rintro e w' ⟨rfl, hb'⟩; have HA' := Lib.hid (HA.out.step hb'); clear HA hb'; (try clear k0 k1 k2 k3 k4 k5 k6 k7); have HA := HA'; clear HA'; obtain ⟨k0, k1, k2, k3, k4, k5, k6, k7⟩ := HA.out.cells))
    go_ret2
    exact ⟨.slice none 0 0, [], (by rw [HD.out]; rfl), RulesOwn.nil _ _, HLIST.out.symm, HA.out.below⟩
  case inr.inl =>
    have HD := Lib.hid (show addCode rs r = ruleCheck r by rw [hcode]; rw [if_neg (by simp [q1]), if_pos q2])
    clear hno hcode
    go_enter Tryz.func18, Tryz.ntmps18
    go_wp2_with (first
      | (go_at_call 25; refine (c_check a c rs _ (HL.out.below HA.out.below (Nat.le_refl _)) HC.out).mono ?_; rintro e w' ⟨rfl, hb'⟩; have HA' := Lib.hid (HA.out.step hb'); clear HA hb'; (try clear k0 k1 k2 k3 k4 k5 k6 k7); have HA := HA'; clear HA'; obtain ⟨k0, k1, k2, k3, k4, k5, k6, k7⟩ := HA.out.cells)
      | (go_at_call 45; refine (c_ruleCheck r _ (HR.out.below HA.out.below (Nat.le_refl _))).mono ?_; rintro e w' ⟨rfl, hb'⟩; have HA' := Lib.hid (HA.out.step hb'); clear HA hb'; (try clear k0 k1 k2 k3 k4 k5 k6 k7); have HA := HA'; clear HA'; obtain ⟨k0, k1, k2, k3, k4, k5, k6, k7⟩ := HA.out.cells)
      | (go_at_call 23; refine (c_pfind a c rs r _ (HL.out.below HA.out.below (Nat.le_refl _)) (HR.out.below HA.out.below (Nat.le_refl _))).mono ?_; rintro e w' ⟨rfl, hb'⟩; have HA' := Lib.hid (HA.out.step hb'); clear HA hb'; (try clear k0 k1 k2 k3 k4 k5 k6 k7); have HA := HA'; clear HA'; obtain ⟨k0, k1, k2, k3, k4, k5, k6, k7⟩ := HA.out.cells))
    go_ret2
    exact ⟨.slice none 0 0, [], (by rw [HD.out]; rfl), RulesOwn.nil _ _, HLIST.out.symm, HA.out.below⟩
  case inl =>
    have HD := Lib.hid (show addCode rs r = rulesCheck rs by rw [hcode]; rw [if_pos q1])
    clear hno hcode
    go_enter Tryz.func18, Tryz.ntmps18
    go_wp2_with (first
      | (go_at_call 25; refine (c_check a c rs _ (HL.out.below HA.out.below (Nat.le_refl _)) HC.out).mono ?_; rintro e w' ⟨rfl, hb'⟩; have HA' := Lib.hid (HA.out.step hb'); clear HA hb'; (try clear k0 k1 k2 k3 k4 k5 k6 k7); have HA := HA'; clear HA'; obtain ⟨k0, k1, k2, k3, k4, k5, k6, k7⟩ := HA.out.cells)
      | (go_at_call 45; refine (c_ruleCheck r _ (HR.out.below HA.out.below (Nat.le_refl _))).mono ?_; rintro e w' ⟨rfl, hb'⟩; have HA' := Lib.hid (HA.out.step hb'); clear HA hb'; (try clear k0 k1 k2 k3 k4 k5 k6 k7); have HA := HA'; clear HA'; obtain ⟨k0, k1, k2, k3, k4, k5, k6, k7⟩ := HA.out.cells)
      | (go_at_call 23; refine (c_pfind a c rs r _ (HL.out.below HA.out.below (Nat.le_refl _)) (HR.out.below HA.out.below (Nat.le_refl _))).mono ?_; rintro e w' ⟨rfl, hb'⟩; have HA' := Lib.hid (HA.out.step hb'); clear HA hb'; (try clear k0 k1 k2 k3 k4 k5 k6 k7); have HA := HA'; clear HA'; obtain ⟨k0, k1, k2, k3, k4, k5, k6, k7⟩ := HA.out.cells))
    go_ret2
    exact ⟨.slice none 0 0, [], (by rw [HD.out]; rfl), RulesOwn.nil _ _, HLIST.out.symm, HA.out.below⟩
set_option maxRecDepth 100000 in
set_option maxHeartbeats 4000000 in
theorem c_padd_yes (a : Option Addr) (c : Nat) (rs : List Rule) (r : Rule) (front : Bool) (w : World) (hl : RulesAt w a rs) (hc : rs.length ≤ c) (hnil : a = none → c = 0) (hr : RuleAt w r) (hyes : addCode rs r = 0) :
    Calls Tryz.prog 18 #[.slice a rs.length c, r.v, .bool front] w (ListPost w (addList rs r front) (addCode rs r)) := by
  have hl1 := hl.1
  have HL := Lib.hid hl
  have HR := Lib.hid hr
  have HC := Lib.hid hc
  have HLIST : Hid (addList rs r front = if front then r.p :: rs.map Rule.p else rs.map Rule.p ++ [r.p]) := Lib.hid (by unfold addList; rw [if_pos hyes])
  clear hl hr hc
  have HA := Lib.hid (BoxAt.new w r)
  have hcode : addCode rs r = if rulesCheck rs != 0 then rulesCheck rs else if ruleCheck r != 0 then ruleCheck r else if 0 ≤ findRule rs r then 141 else if rs.length = 24 then 140 else 0 := rfl
  have q1 : (rulesCheck rs != 0) = false := by
    cases h : (rulesCheck rs != 0)
    · rfl
    · rw [hcode, if_pos h] at hyes; simp [hyes] at h
  have q2 : (ruleCheck r != 0) = false := by
    cases h : (ruleCheck r != 0)
    · rfl
    · rw [hcode, if_neg (by simp [q1]), if_pos h] at hyes; simp [hyes] at h
  have q3 : findRule rs r < 0 := by
    rcases (by omega : 0 ≤ findRule rs r ∨ findRule rs r < 0) with h | h
    · rw [hcode, if_neg (by simp [q1]), if_neg (by simp [q2]), if_pos h] at hyes; cases hyes
    · exact h
  have q4 : rs.length ≠ 24 := by
    intro h
    rw [hcode, if_neg (by simp [q1]), if_neg (by simp [q2]), if_neg (by omega), if_pos h] at hyes; cases hyes
  have q6 := len_of_check rs (by simpa using q1)
  have q5 : ¬ (24 : Int) ≤ (rs.length : Int) := by omega
  have HD := Lib.hid hyes
  have HN := Lib.hid hnil
  clear hyes hcode q4 hnil
  go_enter Tryz.func18, Tryz.ntmps18
  go_upto_region 11 with (first
    | (go_at_call 25; refine (c_check a c rs _ (HL.out.below HA.out.below (Nat.le_refl _)) HC.out).mono ?_; rintro e w' ⟨rfl, hb'⟩; have HA' := Lib.hid (HA.out.step hb'); clear HA hb'; (try clear k0 k1 k2 k3 k4 k5 k6 k7); have HA := HA'; clear HA'; obtain ⟨k0, k1, k2, k3, k4, k5, k6, k7⟩ := HA.out.cells)
    | (go_at_call 45; refine (c_ruleCheck r _ (HR.out.below HA.out.below (Nat.le_refl _))).mono ?_; rintro e w' ⟨rfl, hb'⟩; have HA' := Lib.hid (HA.out.step hb'); clear HA hb'; (try clear k0 k1 k2 k3 k4 k5 k6 k7); have HA := HA'; clear HA'; obtain ⟨k0, k1, k2, k3, k4, k5, k6, k7⟩ := HA.out.cells)
    | (go_at_call 23; refine (c_pfind a c rs r _ (HL.out.below HA.out.below (Nat.le_refl _)) (HR.out.below HA.out.below (Nat.le_refl _))).mono ?_; rintro e w' ⟨rfl, hb'⟩; have HA' := Lib.hid (HA.out.step hb'); clear HA hb'; (try clear k0 k1 k2 k3 k4 k5 k6 k7); have HA := HA'; clear HA'; obtain ⟨k0, k1, k2, k3, k4, k5, k6, k7⟩ := HA.out.cells))
  clear k0 k1 k2 k3 k4 k5 k6 k7
  cases front with
  | false =>
    go_wp2
    obtain ⟨k0, k1, k2, k3, k4, k5, k6, k7⟩ := HA.out.drew.cells
    go_region_law (first
      | (go_simp; go_at_call 47; refine (c_ownRules a c rs _ (HL.out.below HA.out.drew.below (Nat.le_refl _))).mono ?_; rintro e w2 ⟨a2, rs2, rfl, hn2, ho2, hp2, hb2⟩; have hlc : rs2.length = rs.length := (by have := congrArg List.length hp2; simpa using this); rw [hlc] at ho2 ⊢; have HA2 := Lib.hid (HA.out.drew.step hb2); have HO2 := Lib.hid (ho2.base HA.out.drew.below.size); have HP2 := Lib.hid hp2; have HLC := Lib.hid hlc; obtain ⟨g0, g1, g2, g3, g4, g5, g6, g7⟩ := HA2.out.cells; clear ho2 hp2 hb2 hlc hn2)
      | (go_simp; go_at_call 48; refine (c_ownRule r _ (HR.out.below HA2.out.below (Nat.le_refl _))).mono ?_; rintro e w3 ⟨r', rfl, hp', hr', hb'⟩; have HB3 := Lib.hid (HA2.out.below.trans (hb'.mono HA2.out.below.size)); have HO3 := Lib.hid (HO2.out.below hb' (Nat.le_refl _)); have HR3 := Lib.hid hr'; have HP3 := Lib.hid hp'; clear hb' hr' hp')
      | (go_simp; go_at_call 46; refine (c_insB w.heap.size rs.length a2 rs2 w3.heap.size r' _ HLC.out (by rw [World.size_alloc]; exact Nat.le_succ_of_le HB3.out.size) (by have := HLC.out; omega) (HO3.out.below (Below.alloc (Below.refl _ _) (Nat.le_refl _) (ruleBox r')) (Nat.le_refl _)) (HR3.out.below (Below.alloc (Below.refl _ _) (Nat.le_refl _) (ruleBox r')) (Nat.le_refl _)) (heap_new _ _)).mono ?_; rintro e w4 ⟨a4, c4, rfl, ho4, hb4⟩; have HO4 := Lib.hid ho4; have HB4 := Lib.hid hb4; clear ho4 hb4))
    all_goals
      go_wp2
      go_ret2
      refine ⟨_, rs2 ++ [r'], (by rw [HD.out, List.length_append]; rfl), HO4.out, ?_, (HB3.out.alloc HB3.out.size _).trans HB4.out⟩
      rw [HLIST.out, List.map_append, HP2.out]
      simp [HP3.out]
  | true =>
    go_wp2
    obtain ⟨k0, k1, k2, k3, k4, k5, k6, k7⟩ := HA.out.drew.cells
    go_region_law (first
      | (go_simp; go_at_call 47; refine (c_ownRules a c rs _ (HL.out.below HA.out.drew.below (Nat.le_refl _))).mono ?_; rintro e w2 ⟨a2, rs2, rfl, hn2, ho2, hp2, hb2⟩; have hlc : rs2.length = rs.length := (by have := congrArg List.length hp2; simpa using this); rw [hlc] at ho2 ⊢; have HA2 := Lib.hid (HA.out.drew.step hb2); have HO2 := Lib.hid (ho2.base HA.out.drew.below.size); have HP2 := Lib.hid hp2; have HLC := Lib.hid hlc; obtain ⟨g0, g1, g2, g3, g4, g5, g6, g7⟩ := HA2.out.cells; clear ho2 hp2 hb2 hlc hn2)
      | (go_simp; go_at_call 48; refine (c_ownRule r _ (HR.out.below HA2.out.below (Nat.le_refl _))).mono ?_; rintro e w3 ⟨r', rfl, hp', hr', hb'⟩; have HB3 := Lib.hid (HA2.out.below.trans (hb'.mono HA2.out.below.size)); have HO3 := Lib.hid (HO2.out.below hb' (Nat.le_refl _)); have HR3 := Lib.hid hr'; have HP3 := Lib.hid hp'; clear hb' hr' hp')
      | (go_simp; go_at_call 46; refine (c_insF w.heap.size rs.length a2 rs2 w3.heap.size r' _ HLC.out (by rw [World.size_alloc]; exact Nat.le_succ_of_le HB3.out.size) (by have := HLC.out; omega) (HO3.out.below (Below.alloc (Below.refl _ _) (Nat.le_refl _) (ruleBox r')) (Nat.le_refl _)) (HR3.out.below (Below.alloc (Below.refl _ _) (Nat.le_refl _) (ruleBox r')) (Nat.le_refl _)) (heap_new _ _)).mono ?_; rintro e w4 ⟨a4, c4, rfl, ho4, hb4⟩; have HO4 := Lib.hid ho4; have HB4 := Lib.hid hb4; clear ho4 hb4))
    all_goals
      go_wp2
      go_ret2
      refine ⟨_, r' :: rs2, (by rw [HD.out, List.length_cons]; rfl), HO4.out, ?_, (HB3.out.alloc HB3.out.size _).trans HB4.out⟩
      rw [HLIST.out, List.map_cons, HP2.out, HP3.out]
      simp
/-- Add: what it returns, with the code. -/
theorem c_padd (a : Option Addr) (c : Nat) (rs : List Rule) (r : Rule) (front : Bool) (w : World) (hl : RulesAt w a rs) (hc : rs.length ≤ c) (hnil : a = none → c = 0) (hr : RuleAt w r) :
    Calls Tryz.prog 18 #[.slice a rs.length c, r.v, .bool front] w (ListPost w (addList rs r front) (addCode rs r)) := by
  by_cases h : addCode rs r = 0
  · exact c_padd_yes a c rs r front w hl hc hnil hr h
  · exact c_padd_no a c rs r front w hl hc hr h
theorem c_radd (a : Option Addr) (c : Nat) (rs : List Rule) (r : Rule) (front : Bool) (w : World) (hl : RulesAt w a rs) (hc : rs.length ≤ c) (hnil : a = none → c = 0) (hr : RuleAt w r) :
    Calls Tryz.prog 19 #[.slice a rs.length c, r.v, .bool front] w (ListPost w (addList rs r front) (addCode rs r)) := by
  by_cases h : addCode rs r = 0
  · cases front
    · exact c_add_back a c rs r w hl hc hnil hr h
    · exact c_add_front a c rs r w hl hc hnil hr h
  · exact c_add_no a c rs r front w hl hc hr h
end Go.Proofs.YtnbfenapnfbmeaaGreat
