/- Contracts: a rule is added to a list (the reference). -/
import Derived.Test.YtnbfenapnfbmeaaGreatC8
import Derived.Test.YtnbfenapnfbmeaaGreatC6
import Derived.Deep.RegionHeld3
import Derived.Deep.RegionLaw
set_option linter.unusedSimpArgs false
set_option linter.unusedVariables false
namespace Go.Proofs.YtnbfenapnfbmeaaGreat
open Go.RowKit
def addCode (rs : List Rule) (r : Rule) : Int := if rulesCheck rs != 0 then rulesCheck rs else if ruleCheck r != 0 then ruleCheck r else if 0 ≤ findRule rs r then 141 else if rs.length = 24 then 140 else 0
def addList (rs : List Rule) (r : Rule) (front : Bool) : List PRule := if addCode rs r = 0 then (if front then r.p :: rs.map Rule.p else rs.map Rule.p ++ [r.p]) else []
/-- A list of rules that a call returns, with a code. -/
def ListPost (w : World) (l : List PRule) (code : Int) (e : Ending) (w' : World) : Prop := ∃ (v : Value) (rs' : List Rule), e = .returned (.tuple #[v, .int .i64 code]) ∧ RulesOwn w' w.heap.size v rs' ∧ rs'.map Rule.p = l ∧ Below w.heap.size w w'
theorem RulesOwn.nil (w : World) (B : Nat) : RulesOwn w B (.slice none 0 0) [] := ⟨by simp, World.ownsRow_nil _ _ _ _, by simp⟩
/-- A box that holds a rule, in a later world. -/
structure BoxAt (w : World) (r : Rule) (W : World) : Prop where
  below : Below w.heap.size w W
  box : W.heap[w.heap.size]? = some (ruleBox r)
theorem BoxAt.new (w : World) (r : Rule) : BoxAt w r (w.alloc (ruleBox r)) := ⟨(Below.refl _ w).alloc (Nat.le_refl _) _, heap_new _ _⟩
theorem BoxAt.step {w W W' : World} {r : Rule} (h : BoxAt w r W) (hb : Below W.heap.size W W') : BoxAt w r W' := ⟨h.below.trans (hb.mono h.below.size), (hb.block _ (lt_of_some h.box)).trans h.box⟩
theorem BoxAt.drew {w W : World} {r : Rule} (h : BoxAt w r W) : BoxAt w r W.drew := ⟨pw_drew h.below, h.box⟩
theorem BoxAt.cells {w W : World} {r : Rule} (h : BoxAt w r W) :
    W.cell? ⟨w.heap.size, 0, none⟩ = some (.int .i64 r.list) ∧ W.cell? ⟨w.heap.size, 1, none⟩ = some (.int .i64 r.action) ∧ W.cell? ⟨w.heap.size, 2, none⟩ = some (.int .u64 r.calls) ∧
    W.cell? ⟨w.heap.size, 3, none⟩ = some (.slice r.ta r.tests.length r.tc) ∧ W.cell? ⟨w.heap.size, 4, none⟩ = some (.int .i64 r.watch) ∧ W.cell? ⟨w.heap.size, 5, none⟩ = some (.string r.path) ∧
    W.cell? ⟨w.heap.size, 6, none⟩ = some (.int .i64 r.perm) ∧ W.cell? ⟨w.heap.size, 7, none⟩ = some (.string r.key) := by
  have c := cell_of_block h.box
  exact ⟨c 0, c 1, c 2, c 3, c 4, c 5, c 6, c 7⟩
theorem ownsRow_base {w : World} {B B' n sz : Nat} {E : TypeId} {v : Value} {xs : List Value} (h : w.ownsRow B E sz v n xs) (hB : B' ≤ B) : w.ownsRow B' E sz v n xs := by
  refine ⟨h.1, ?_⟩
  rcases h.2 with hn | ⟨g, cap, cur, he, hb, rest⟩
  · exact .inl hn
  · exact .inr ⟨g, cap, cur, he, Nat.le_trans hB hb, rest⟩
theorem RulesOwn.base {w : World} {B B' : Nat} {v : Value} {rs : List Rule} (h : RulesOwn w B v rs) (hB : B' ≤ B) : RulesOwn w B' v rs := ⟨h.1, ownsRow_base h.2.1 hB, h.2.2⟩
theorem len_of_check (rs : List Rule) (h : rulesCheck rs = 0) : rs.length ≤ 24 := by
  unfold rulesCheck at h
  split at h
  · cases h
  · omega
theorem own_new (w : World) (r : Rule) (B : Nat) (hB : B ≤ w.heap.size) : (w.alloc (ruleBox r)).ownsRow B tRule 8 (.slice (some ⟨w.heap.size, 0, none⟩) 1 1) 1 r.cells :=
  ⟨rfl, .inr ⟨w.heap.size, 1, _, rfl, hB, heap_new _ _, Nat.le_refl _, by unfold maxLen; omega, rfl, rfl⟩⟩
set_option maxRecDepth 100000 in
set_option maxHeartbeats 4000000 in
theorem c_add_no (a : Option Addr) (c : Nat) (rs : List Rule) (r : Rule) (front : Bool) (w : World) (hl : RulesAt w a rs) (hc : rs.length ≤ c) (hr : RuleAt w r) (hno : addCode rs r ≠ 0) :
    Calls Tryz.prog 19 #[.slice a rs.length c, r.v, .bool front] w (ListPost w (addList rs r front) (addCode rs r)) := by
  have hl1 := hl.1
  have HL := Lib.hid hl
  have HR := Lib.hid hr
  have HC := Lib.hid hc
  have HLIST : Hid (addList rs r front = []) := Lib.hid (by unfold addList; rw [if_neg hno])
  clear hl hr hc
  have HA := Lib.hid (BoxAt.new w r)
  have hcode : addCode rs r = if rulesCheck rs != 0 then rulesCheck rs else if ruleCheck r != 0 then ruleCheck r else if 0 ≤ findRule rs r then 141 else if rs.length = 24 then 140 else 0 := rfl
  rcases (by cases rulesCheck rs != 0 <;> simp : (rulesCheck rs != 0) = true ∨ (rulesCheck rs != 0) = false) with q1 | q1
  rotate_left
  rcases (by cases ruleCheck r != 0 <;> simp : (ruleCheck r != 0) = true ∨ (ruleCheck r != 0) = false) with q2 | q2
  rotate_left
  rcases (by omega : 0 ≤ findRule rs r ∨ findRule rs r < 0) with q3 | q3
  rotate_left
  rcases (by omega : rs.length = 24 ∨ rs.length ≠ 24) with q4 | q4
  case inr.inr.inr.inr => exact absurd (by rw [hcode]; simp [q1, q2, q4]; omega) hno
  case inr.inr.inr.inl =>
    have q5 : ((rs.length : Int) == 24) = true := by simp; omega
    have HD := Lib.hid (show addCode rs r = 140 by rw [hcode]; simp [q1, q2, q4]; omega)
    clear hno hcode q4
    go_enter Tryz.func19, Tryz.ntmps19
    go_wp2_with (first
      | (go_at_call 26; refine (c_rcheck a c rs _ (HL.out.below HA.out.below (Nat.le_refl _)) HC.out).mono ?_; rintro e w' ⟨rfl, hb'⟩; have HA' := Lib.hid (HA.out.step hb'); clear HA hb'; (try clear k0 k1 k2 k3 k4 k5 k6 k7); have HA := HA'; clear HA'; obtain ⟨k0, k1, k2, k3, k4, k5, k6, k7⟩ := HA.out.cells)
      | (go_at_call 49; refine (c_rruleCheck r _ (HR.out.below HA.out.below (Nat.le_refl _))).mono ?_; rintro e w' ⟨rfl, hb'⟩; have HA' := Lib.hid (HA.out.step hb'); clear HA hb'; (try clear k0 k1 k2 k3 k4 k5 k6 k7); have HA := HA'; clear HA'; obtain ⟨k0, k1, k2, k3, k4, k5, k6, k7⟩ := HA.out.cells)
      | (go_at_call 24; refine (c_rfind a c rs r _ (HL.out.below HA.out.below (Nat.le_refl _)) (HR.out.below HA.out.below (Nat.le_refl _))).mono ?_; rintro e w' ⟨rfl, hb'⟩; have HA' := Lib.hid (HA.out.step hb'); clear HA hb'; (try clear k0 k1 k2 k3 k4 k5 k6 k7); have HA := HA'; clear HA'; obtain ⟨k0, k1, k2, k3, k4, k5, k6, k7⟩ := HA.out.cells))
    go_ret2
    exact ⟨.slice none 0 0, [], (by rw [HD.out]; rfl), RulesOwn.nil _ _, HLIST.out.symm, HA.out.below⟩
  case inr.inr.inl =>
    have HD := Lib.hid (show addCode rs r = 141 by rw [hcode]; rw [if_neg (by simp [q1]), if_neg (by simp [q2]), if_pos q3])
    clear hno hcode
    go_enter Tryz.func19, Tryz.ntmps19
    go_wp2_with (first
      | (go_at_call 26; refine (c_rcheck a c rs _ (HL.out.below HA.out.below (Nat.le_refl _)) HC.out).mono ?_; rintro e w' ⟨rfl, hb'⟩; have HA' := Lib.hid (HA.out.step hb'); clear HA hb'; (try clear k0 k1 k2 k3 k4 k5 k6 k7); have HA := HA'; clear HA'; obtain ⟨k0, k1, k2, k3, k4, k5, k6, k7⟩ := HA.out.cells)
      | (go_at_call 49; refine (c_rruleCheck r _ (HR.out.below HA.out.below (Nat.le_refl _))).mono ?_; rintro e w' ⟨rfl, hb'⟩; have HA' := Lib.hid (HA.out.step hb'); clear HA hb'; (try clear k0 k1 k2 k3 k4 k5 k6 k7); have HA := HA'; clear HA'; obtain ⟨k0, k1, k2, k3, k4, k5, k6, k7⟩ := HA.out.cells)
      | (go_at_call 24; refine (c_rfind a c rs r _ (HL.out.below HA.out.below (Nat.le_refl _)) (HR.out.below HA.out.below (Nat.le_refl _))).mono ?_; rintro e w' ⟨rfl, hb'⟩; have HA' := Lib.hid (HA.out.step hb'); clear HA hb'; (try clear k0 k1 k2 k3 k4 k5 k6 k7); have HA := HA'; clear HA'; obtain ⟨k0, k1, k2, k3, k4, k5, k6, k7⟩ := HA.out.cells))
    go_ret2
    exact ⟨.slice none 0 0, [], (by rw [HD.out]; rfl), RulesOwn.nil _ _, HLIST.out.symm, HA.out.below⟩
  case inr.inl =>
    have HD := Lib.hid (show addCode rs r = ruleCheck r by rw [hcode]; rw [if_neg (by simp [q1]), if_pos q2])
    clear hno hcode
    go_enter Tryz.func19, Tryz.ntmps19
    go_wp2_with (first
      | (go_at_call 26; refine (c_rcheck a c rs _ (HL.out.below HA.out.below (Nat.le_refl _)) HC.out).mono ?_; rintro e w' ⟨rfl, hb'⟩; have HA' := Lib.hid (HA.out.step hb'); clear HA hb'; (try clear k0 k1 k2 k3 k4 k5 k6 k7); have HA := HA'; clear HA'; obtain ⟨k0, k1, k2, k3, k4, k5, k6, k7⟩ := HA.out.cells)
      | (go_at_call 49; refine (c_rruleCheck r _ (HR.out.below HA.out.below (Nat.le_refl _))).mono ?_; rintro e w' ⟨rfl, hb'⟩; have HA' := Lib.hid (HA.out.step hb'); clear HA hb'; (try clear k0 k1 k2 k3 k4 k5 k6 k7); have HA := HA'; clear HA'; obtain ⟨k0, k1, k2, k3, k4, k5, k6, k7⟩ := HA.out.cells)
      | (go_at_call 24; refine (c_rfind a c rs r _ (HL.out.below HA.out.below (Nat.le_refl _)) (HR.out.below HA.out.below (Nat.le_refl _))).mono ?_; rintro e w' ⟨rfl, hb'⟩; have HA' := Lib.hid (HA.out.step hb'); clear HA hb'; (try clear k0 k1 k2 k3 k4 k5 k6 k7); have HA := HA'; clear HA'; obtain ⟨k0, k1, k2, k3, k4, k5, k6, k7⟩ := HA.out.cells))
    go_ret2
    exact ⟨.slice none 0 0, [], (by rw [HD.out]; rfl), RulesOwn.nil _ _, HLIST.out.symm, HA.out.below⟩
  case inl =>
    have HD := Lib.hid (show addCode rs r = rulesCheck rs by rw [hcode]; rw [if_pos q1])
    clear hno hcode
    go_enter Tryz.func19, Tryz.ntmps19
    go_wp2_with (first
      | (go_at_call 26; refine (c_rcheck a c rs _ (HL.out.below HA.out.below (Nat.le_refl _)) HC.out).mono ?_; rintro e w' ⟨rfl, hb'⟩; have HA' := Lib.hid (HA.out.step hb'); clear HA hb'; (try clear k0 k1 k2 k3 k4 k5 k6 k7); have HA := HA'; clear HA'; obtain ⟨k0, k1, k2, k3, k4, k5, k6, k7⟩ := HA.out.cells)
      | (go_at_call 49; refine (c_rruleCheck r _ (HR.out.below HA.out.below (Nat.le_refl _))).mono ?_; rintro e w' ⟨rfl, hb'⟩; have HA' := Lib.hid (HA.out.step hb'); clear HA hb'; (try clear k0 k1 k2 k3 k4 k5 k6 k7); have HA := HA'; clear HA'; obtain ⟨k0, k1, k2, k3, k4, k5, k6, k7⟩ := HA.out.cells)
      | (go_at_call 24; refine (c_rfind a c rs r _ (HL.out.below HA.out.below (Nat.le_refl _)) (HR.out.below HA.out.below (Nat.le_refl _))).mono ?_; rintro e w' ⟨rfl, hb'⟩; have HA' := Lib.hid (HA.out.step hb'); clear HA hb'; (try clear k0 k1 k2 k3 k4 k5 k6 k7); have HA := HA'; clear HA'; obtain ⟨k0, k1, k2, k3, k4, k5, k6, k7⟩ := HA.out.cells))
    go_ret2
    exact ⟨.slice none 0 0, [], (by rw [HD.out]; rfl), RulesOwn.nil _ _, HLIST.out.symm, HA.out.below⟩
set_option maxRecDepth 100000 in
set_option maxHeartbeats 4000000 in
theorem c_add_front (a : Option Addr) (c : Nat) (rs : List Rule) (r : Rule) (w : World) (hl : RulesAt w a rs) (hc : rs.length ≤ c) (hnil : a = none → c = 0) (hr : RuleAt w r) (hyes : addCode rs r = 0) :
    Calls Tryz.prog 19 #[.slice a rs.length c, r.v, .bool true] w (ListPost w (addList rs r true) (addCode rs r)) := by
  have hl1 := hl.1
  have HL := Lib.hid hl
  have HR := Lib.hid hr
  have HC := Lib.hid hc
  have HLIST : Hid (addList rs r true = r.p :: rs.map Rule.p) := Lib.hid (by unfold addList; rw [if_pos hyes, if_pos rfl])
  clear hl hr hc
  have HA := Lib.hid (BoxAt.new w r)
  have hcode : addCode rs r = if rulesCheck rs != 0 then rulesCheck rs else if ruleCheck r != 0 then ruleCheck r else if 0 ≤ findRule rs r then 141 else if rs.length = 24 then 140 else 0 := rfl
  have q1 : (rulesCheck rs != 0) = false := by
    cases h : (rulesCheck rs != 0)
    · rfl
    · rw [hcode, if_pos h] at hyes; simp [hyes] at h
  have q2 : (ruleCheck r != 0) = false := by
    cases h : (ruleCheck r != 0)
    · rfl
    · rw [hcode, if_neg (by simp [q1]), if_pos h] at hyes; simp [hyes] at h
  have q3 : findRule rs r < 0 := by
    rcases (by omega : 0 ≤ findRule rs r ∨ findRule rs r < 0) with h | h
    · rw [hcode, if_neg (by simp [q1]), if_neg (by simp [q2]), if_pos h] at hyes; cases hyes
    · exact h
  have q4 : rs.length ≠ 24 := by
    intro h
    rw [hcode, if_neg (by simp [q1]), if_neg (by simp [q2]), if_neg (by omega), if_pos h] at hyes; cases hyes
  have q5 : ((rs.length : Int) == 24) = false := by simp; omega
  have HD := Lib.hid hyes
  have HN := Lib.hid hnil
  clear hyes hcode q4 hnil
  obtain ⟨i0, hi, hz0, hz1, hz2⟩ := info_parts info_rule
  have HI := Lib.hid hi
  clear hi
  go_enter Tryz.func19, Tryz.ntmps19
  go_wp2_with (first
    | (go_at_call 26; refine (c_rcheck a c rs _ (HL.out.below HA.out.below (Nat.le_refl _)) HC.out).mono ?_; rintro e w' ⟨rfl, hb'⟩; have HA' := Lib.hid (HA.out.step hb'); clear HA hb'; (try clear k0 k1 k2 k3 k4 k5 k6 k7); have HA := HA'; clear HA'; obtain ⟨k0, k1, k2, k3, k4, k5, k6, k7⟩ := HA.out.cells)
    | (go_at_call 49; refine (c_rruleCheck r _ (HR.out.below HA.out.below (Nat.le_refl _))).mono ?_; rintro e w' ⟨rfl, hb'⟩; have HA' := Lib.hid (HA.out.step hb'); clear HA hb'; (try clear k0 k1 k2 k3 k4 k5 k6 k7); have HA := HA'; clear HA'; obtain ⟨k0, k1, k2, k3, k4, k5, k6, k7⟩ := HA.out.cells)
    | (go_at_call 24; refine (c_rfind a c rs r _ (HL.out.below HA.out.below (Nat.le_refl _)) (HR.out.below HA.out.below (Nat.le_refl _))).mono ?_; rintro e w' ⟨rfl, hb'⟩; have HA' := Lib.hid (HA.out.step hb'); clear HA hb'; (try clear k0 k1 k2 k3 k4 k5 k6 k7); have HA := HA'; clear HA'; obtain ⟨k0, k1, k2, k3, k4, k5, k6, k7⟩ := HA.out.cells)
    | (go_at_call 50; refine (c_copyRule r _ (HR.out.below HA.out.below (Nat.le_refl _))).mono ?_; rintro e w1 ⟨r', rfl, hp', hr', hb'⟩; have HA1 := Lib.hid (HA.out.step hb'); have HR1 := Lib.hid hr'; have HP1 := Lib.hid hp'; clear HA hb' hr' hp'; (try clear k0 k1 k2 k3 k4 k5 k6 k7))
    | (go_at_call 51; refine (c_copy a c rs _ (HL.out.below (Below.alloc HA1.out.below HA1.out.below.size _) (Nat.le_refl _))).mono ?_; rintro e w2 ⟨v2, rs2, rfl, ho2, hp2, hb2⟩; obtain ⟨a2, c2, rfl, hn2, hat2⟩ := ho2.shape; have HO2 := Lib.hid ho2; have HP2 := Lib.hid hp2; have HB2 := Lib.hid hb2; have HN2 := Lib.hid hn2; have HT2 := Lib.hid hat2; have hl2 := hat2.1; have HOW := Lib.hid (World.ownsRow.kept (row := none) (own_new w1 r' w.heap.size HA1.out.below.size) ⟨hb2.os, hb2.tape, hb2.output, hb2.size, fun k hk _ => hb2.block k hk⟩ (by simp [Value.ownBlock])); clear ho2 hp2 hb2 hn2 hat2)
    | (at_builtin; refine append_row (w := w2) rfl _ _ 25 rfl tRule i0 _ 8 96 Tryz.underlying25 HI.out hz0 hz1 hz2 rfl (by decide) w.heap.size (.slice (some ⟨w1.heap.size, 0, none⟩) 1 1) 1 r'.cells rfl HOW.out Rule.cells rs2 (fun _ => rfl) one_rule a2 c2 rfl HN2.out HT2.out.2.1 (by unfold maxLen; omega) (by omega) (Nat.le_trans HA1.out.below.size (Nat.le_trans (Nat.le_succ _) (by have := HB2.out.size; simp at this; omega))) ?_; intro v3 w3 hown3 hg3; have HO3 := Lib.hid hown3; have HG3 := Lib.hid hg3; clear hown3 hg3))
  go_ret2
  have hk3 : Keeps tTest w2 w3 := Keeps.own HOW.out HG3.out
  have hlen : 1 + rs2.length = (r' :: rs2).length := by simp; omega
  have hlc : rs2.length = rs.length := by have := congrArg List.length HP2.out; simpa using this
  refine ⟨v3, r' :: rs2, (by rw [HD.out]; rfl), ⟨?_, ?_, ?_⟩, ?_, ?_⟩
  · have := len_of_check rs (by simpa using q1)
    simp; omega
  · have h3 := HO3.out
    rw [hlen] at h3
    exact h3
  · intro x hx
    rcases List.mem_cons.1 hx with rfl | hx
    · exact ((HR1.out.keep (Keeps.below (Below.alloc (Below.refl _ _) (Nat.le_refl _) _) (Nat.le_refl _))).below HB2.out (Nat.le_refl _)).keep hk3
    · exact (HO2.out.2.2 x hx).keep hk3
  · rw [HLIST.out, List.map_cons, HP2.out, HP1.out]
  · exact below_own HOW.out HG3.out ((Below.alloc HA1.out.below HA1.out.below.size _).trans (HB2.out.mono (by simp; have := HA1.out.below.size; omega))) (by have := HB2.out.size; have := HA1.out.below.size; simp at *; omega)
set_option maxRecDepth 100000 in
set_option maxHeartbeats 4000000 in
theorem c_add_back (a : Option Addr) (c : Nat) (rs : List Rule) (r : Rule) (w : World) (hl : RulesAt w a rs) (hc : rs.length ≤ c) (hnil : a = none → c = 0) (hr : RuleAt w r) (hyes : addCode rs r = 0) :
    Calls Tryz.prog 19 #[.slice a rs.length c, r.v, .bool false] w (ListPost w (addList rs r false) (addCode rs r)) := by
  have hl1 := hl.1
  have HL := Lib.hid hl
  have HR := Lib.hid hr
  have HC := Lib.hid hc
  have HLIST : Hid (addList rs r false = rs.map Rule.p ++ [r.p]) := Lib.hid (by unfold addList; rw [if_pos hyes, if_neg (by simp)])
  clear hl hr hc
  have HA := Lib.hid (BoxAt.new w r)
  have hcode : addCode rs r = if rulesCheck rs != 0 then rulesCheck rs else if ruleCheck r != 0 then ruleCheck r else if 0 ≤ findRule rs r then 141 else if rs.length = 24 then 140 else 0 := rfl
  have q1 : (rulesCheck rs != 0) = false := by
    cases h : (rulesCheck rs != 0)
    · rfl
    · rw [hcode, if_pos h] at hyes; simp [hyes] at h
  have q2 : (ruleCheck r != 0) = false := by
    cases h : (ruleCheck r != 0)
    · rfl
    · rw [hcode, if_neg (by simp [q1]), if_pos h] at hyes; simp [hyes] at h
  have q3 : findRule rs r < 0 := by
    rcases (by omega : 0 ≤ findRule rs r ∨ findRule rs r < 0) with h | h
    · rw [hcode, if_neg (by simp [q1]), if_neg (by simp [q2]), if_pos h] at hyes; cases hyes
    · exact h
  have q4 : rs.length ≠ 24 := by
    intro h
    rw [hcode, if_neg (by simp [q1]), if_neg (by simp [q2]), if_neg (by omega), if_pos h] at hyes; cases hyes
  have q5 : ((rs.length : Int) == 24) = false := by simp; omega
  have HD := Lib.hid hyes
  have HN := Lib.hid hnil
  clear hyes hcode q4 hnil
  obtain ⟨i0, hi, hz0, hz1, hz2⟩ := info_parts info_rule
  have HI := Lib.hid hi
  clear hi
  go_enter Tryz.func19, Tryz.ntmps19
  go_wp2_with (first
    | (go_at_call 26; refine (c_rcheck a c rs _ (HL.out.below HA.out.below (Nat.le_refl _)) HC.out).mono ?_; rintro e w' ⟨rfl, hb'⟩; have HA' := Lib.hid (HA.out.step hb'); clear HA hb'; (try clear k0 k1 k2 k3 k4 k5 k6 k7); have HA := HA'; clear HA'; obtain ⟨k0, k1, k2, k3, k4, k5, k6, k7⟩ := HA.out.cells)
    | (go_at_call 49; refine (c_rruleCheck r _ (HR.out.below HA.out.below (Nat.le_refl _))).mono ?_; rintro e w' ⟨rfl, hb'⟩; have HA' := Lib.hid (HA.out.step hb'); clear HA hb'; (try clear k0 k1 k2 k3 k4 k5 k6 k7); have HA := HA'; clear HA'; obtain ⟨k0, k1, k2, k3, k4, k5, k6, k7⟩ := HA.out.cells)
    | (go_at_call 24; refine (c_rfind a c rs r _ (HL.out.below HA.out.below (Nat.le_refl _)) (HR.out.below HA.out.below (Nat.le_refl _))).mono ?_; rintro e w' ⟨rfl, hb'⟩; have HA' := Lib.hid (HA.out.step hb'); clear HA hb'; (try clear k0 k1 k2 k3 k4 k5 k6 k7); have HA := HA'; clear HA'; obtain ⟨k0, k1, k2, k3, k4, k5, k6, k7⟩ := HA.out.cells))
  clear k0 k1 k2 k3 k4 k5 k6 k7
  obtain ⟨k0, k1, k2, k3, k4, k5, k6, k7⟩ := HA.out.drew.cells
  go_region_law (first
    | (go_simp; go_at_call 51; refine (c_copy a c rs _ (HL.out.below HA.out.drew.below (Nat.le_refl _))).mono ?_; rintro e w2 ⟨v2, rs2, rfl, ho2, hp2, hb2⟩; have HA2 := Lib.hid (HA.out.drew.step hb2); have HO2 := Lib.hid (ho2.base HA.out.drew.below.size); have HP2 := Lib.hid hp2; have hl2 := ho2.1; obtain ⟨g0, g1, g2, g3, g4, g5, g6, g7⟩ := HA2.out.cells; clear ho2 hp2 hb2)
    | (go_simp; go_at_call 50; refine (c_copyRule r _ (HR.out.below HA2.out.below (Nat.le_refl _))).mono ?_; rintro e w3 ⟨r', rfl, hp', hr', hb'⟩; have HB3 := Lib.hid (HA2.out.below.trans (hb'.mono HA2.out.below.size)); have HO3 := Lib.hid (HO2.out.below hb' (Nat.le_refl _)); have HR3 := Lib.hid hr'; have HP3 := Lib.hid hp'; clear hb' hr' hp')
    | (refine step_append_lies _ (by rfl) _ _ 25 (by rfl) w.heap.size tRule i0 _ 8 96 Tryz.underlying25 HI.out hz0 hz1 hz2 rfl (by decide) v2 rs2.length (rs2.flatMap Rule.cells) (by rfl) (HO3.out.2.1.alloc (ruleBox r')) ⟨w3.heap.size, 0, none⟩ 1 1 r'.cells (by rfl) rfl (news_new _ _ _) (one_rule r') (by decide) (by unfold maxLen; omega) (by omega) (by rw [World.size_alloc]; exact Nat.le_succ_of_le HB3.out.size) _ rfl ?_; intro g cap w4 hown4 hg4 hgb hlt4; have HO4 := Lib.hid hown4; have HG4 := Lib.hid hg4; clear hown4 hg4 hgb))
  all_goals
    go_wp2
    go_ret2
    have hown := HO4.out
    have hO1 := HO3.out.2.1.alloc (ruleBox r')
    have hk : Keeps tTest (w3.alloc (ruleBox r')) w4 := Keeps.own hO1 HG4.out
    have hlc : rs2.length = rs.length := by have := congrArg List.length HP2.out; simpa using this
    have h24 := len_of_check rs (by simpa using q1)
    refine ⟨_, rs2 ++ [r'], (by rw [HD.out]; rfl), RulesOwn.snoc (w1 := w3.alloc (ruleBox r')) HO3.out (HR3.out.keep (Keeps.below (Below.alloc (Below.refl _ _) (Nat.le_refl _) _) (Nat.le_refl _))) (Below.alloc (Below.refl _ _) (Nat.le_refl _) _) (by omega) hown hk, ?_, ?_⟩
    · rw [HLIST.out, List.map_append, HP2.out]
      simp [HP3.out]
    · exact below_own hO1 HG4.out (Below.alloc HB3.out HB3.out.size _) (by rw [World.size_alloc]; exact Nat.le_succ_of_le HB3.out.size)
end Go.Proofs.YtnbfenapnfbmeaaGreat
