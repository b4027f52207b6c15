/- Contracts: two rules are equal (the program). -/
import Derived.Test.YtnbfenapnfbmeaaGreatC2
import Derived.Test.YtnbfenapnfbmeaaGreatB1
set_option linter.unusedSimpArgs false
set_option linter.unusedVariables false
namespace Go.Proofs.YtnbfenapnfbmeaaGreat
open Go.RowKit
attribute [local go_sem high] eqTest
set_option maxRecDepth 100000 in
set_option maxHeartbeats 1000000 in
theorem c_eqTests (a1 a2 : Option Addr) (n1 n2 : Nat) (ts us : List Test) (w : World) (h1 : TestsAt w a1 ts) (h2 : TestsAt w a2 us) :
    Calls Tryz.prog 79 #[.slice a1 ts.length n1, .slice a2 us.length n2] w fun e w' => e = .returned (.bool (testsEq ts us)) ∧ Below w.heap.size w w' := by
  have hl1 := h1.1
  have hl2 := h2.1
  have H1 := Lib.hid h1
  have H2 := Lib.hid h2
  clear h1 h2
  go_enter Tryz.func79, Tryz.ntmps79
  by_cases hne : ts.length = us.length
  case neg =>
    have hq : ((ts.length : Int) != (us.length : Int)) = true := by simp; omega
    have HZ := Lib.hid (testsEq_len ts us hne)
    go_wp2
    go_ret
    exact ⟨ret_bool HZ.out.symm, Below.refl _ _⟩
  have hq : ((ts.length : Int) != (us.length : Int)) = false := by simp; omega
  have HE := Lib.hid hne
  clear hne
  go_wp2
  clear hq
  go_loopg [13] ts.length (fun gg i wr => ∃ k : Nat, k ≤ ts.length ∧ ts.length - k ≤ gg ∧ i = .int .i64 k ∧ Aside (testsEq ts us = testsEq (ts.drop k) (us.drop k)) ∧ Aside (Below w.heap.size w wr))
  case atStart => exact ⟨0, Nat.zero_le _, by omega, rfl, rfl, Below.refl _ _⟩
  case round =>
    obtain ⟨k, hk, hg, rfl, HT, HB⟩ := hrel
    by_cases hlt : k < ts.length
    · have hlt2 : k < us.length := by have := HE.out; omega
      obtain ⟨b, o, ha, hb, d0, d1, d2, d3, d4⟩ := H1.out.at HB.out k hlt
      obtain ⟨b', o', ha', hb', e0, e1, e2, e3, e4⟩ := H2.out.at HB.out k hlt2
      have hs := testsEq_drop k ts us hlt hlt2
      generalize ts[k] = x at d0 d1 d2 d3 d4 hs
      generalize us[k] = y at e0 e1 e2 e3 e4 hs
      have HS := Lib.hid hs
      clear hs
      have hi1 : (k : Int) < (ts.length : Int) := by omega
      have hi2 : (k : Int) < (us.length : Int) := by omega
      subst ha ha'
      go_wp2
      go_quiet (fail)
      go_wp2
      · have hx : testEq x y = false := by have h : (!testEq x y) = true := by assumption
                                           simpa using h
        have hz : testsEq ts us = false := by rw [HT, HS.out, hx]; rfl
        have HZ := Lib.hid hz
        clear hz hx HT
        go_ret
        exact ⟨ret_bool HZ.out.symm, pw_drewN HB.out _⟩
      · have hx : testEq x y = true := by have h : (!testEq x y) = false := by assumption
                                          simpa using h
        have hz : Aside (testsEq ts us = testsEq (List.drop (k + 1) ts) (List.drop (k + 1) us)) := by show _ = _; rw [HT, HS.out, hx]; rfl
        clear HT
        go_roundg (ts.length - (k + 1))
        case measure => omega
        case rel => exact ⟨k + 1, by omega, by omega, by go_num, hz, pw_drewN HB.out _⟩
    · have he : k = ts.length := by omega
      have hn : ¬ (k : Int) < (ts.length : Int) := by omega
      have hz : testsEq ts us = true := by rw [HT, he, List.drop_length, HE.out, List.drop_length]; rfl
      have HZ := Lib.hid hz
      clear hz he HT
      go_wp2
      go_ret
      exact ⟨ret_bool HZ.out.symm, HB.out⟩
theorem two_boxes (w : World) (a b : Rule) : ((w.alloc (ruleBox a)).alloc (ruleBox b)).heap[w.heap.size]? = some (ruleBox a) ∧ ((w.alloc (ruleBox a)).alloc (ruleBox b)).heap[w.heap.size + 1]? = some (ruleBox b) :=
  ⟨by rw [Below.heap_alloc _ _ _ (by simp)]; exact heap_new _ _, by have := heap_new (w.alloc (ruleBox a)) (ruleBox b); rwa [World.size_alloc] at this⟩
set_option maxRecDepth 100000 in
set_option maxHeartbeats 1000000 in
theorem c_pequal (a b : Rule) (w : World) (ha : RuleAt w a) (hb : RuleAt w b) :
    Calls Tryz.prog 55 #[a.v, b.v] w fun e w' => e = .returned (.bool (ruleEq a b)) ∧ Below w.heap.size w w' := by
  have HA := Lib.hid ha
  have HB := Lib.hid hb
  clear ha hb
  have HB0 : Hid (Below w.heap.size w ((w.alloc (ruleBox a)).alloc (ruleBox b))) := Lib.hid (((Below.refl _ w).alloc (Nat.le_refl _) _).alloc (by simp) _)
  have HX := Lib.hid (two_boxes w a b)
  cases q0 : (a.list == b.list)
  case false =>
    go_enter Tryz.func55, Tryz.ntmps55
    go_wp2_with (go_at_call 79; refine (c_eqTests a.ta b.ta a.tc b.tc a.tests b.tests _ (HA.out.1.below HB0.out (Nat.le_refl _)) (HB.out.1.below HB0.out (Nat.le_refl _))).mono ?_; rintro e w1 ⟨rfl, hb1⟩; have g0 := (hb1.block w.heap.size (by simp; omega)).trans HX.out.1; have g1 := (hb1.block (w.heap.size + 1) (by simp)).trans HX.out.2; have k4 := cell_of_block g0 4; have k5 := cell_of_block g0 5; have k6 := cell_of_block g0 6; have k7 := cell_of_block g0 7; have l4 := cell_of_block g1 4; have l5 := cell_of_block g1 5; have l6 := cell_of_block g1 6; have l7 := cell_of_block g1 7; simp at k4 k5 k6 k7 l4 l5 l6 l7; have HB1 := Lib.hid (HB0.out.trans (hb1.mono (by simp; omega))); clear g0 g1 hb1)
    go_ret
    exact ⟨ret_bool (by simp [ruleEq, q0]), by first | exact HB1.out | exact HB0.out⟩
  cases q1 : (a.action == b.action)
  case false =>
    go_enter Tryz.func55, Tryz.ntmps55
    go_wp2_with (go_at_call 79; refine (c_eqTests a.ta b.ta a.tc b.tc a.tests b.tests _ (HA.out.1.below HB0.out (Nat.le_refl _)) (HB.out.1.below HB0.out (Nat.le_refl _))).mono ?_; rintro e w1 ⟨rfl, hb1⟩; have g0 := (hb1.block w.heap.size (by simp; omega)).trans HX.out.1; have g1 := (hb1.block (w.heap.size + 1) (by simp)).trans HX.out.2; have k4 := cell_of_block g0 4; have k5 := cell_of_block g0 5; have k6 := cell_of_block g0 6; have k7 := cell_of_block g0 7; have l4 := cell_of_block g1 4; have l5 := cell_of_block g1 5; have l6 := cell_of_block g1 6; have l7 := cell_of_block g1 7; simp at k4 k5 k6 k7 l4 l5 l6 l7; have HB1 := Lib.hid (HB0.out.trans (hb1.mono (by simp; omega))); clear g0 g1 hb1)
    go_ret
    exact ⟨ret_bool (by simp [ruleEq, q0, q1]), by first | exact HB1.out | exact HB0.out⟩
  cases q2 : (a.calls == b.calls)
  case false =>
    go_enter Tryz.func55, Tryz.ntmps55
    go_wp2_with (go_at_call 79; refine (c_eqTests a.ta b.ta a.tc b.tc a.tests b.tests _ (HA.out.1.below HB0.out (Nat.le_refl _)) (HB.out.1.below HB0.out (Nat.le_refl _))).mono ?_; rintro e w1 ⟨rfl, hb1⟩; have g0 := (hb1.block w.heap.size (by simp; omega)).trans HX.out.1; have g1 := (hb1.block (w.heap.size + 1) (by simp)).trans HX.out.2; have k4 := cell_of_block g0 4; have k5 := cell_of_block g0 5; have k6 := cell_of_block g0 6; have k7 := cell_of_block g0 7; have l4 := cell_of_block g1 4; have l5 := cell_of_block g1 5; have l6 := cell_of_block g1 6; have l7 := cell_of_block g1 7; simp at k4 k5 k6 k7 l4 l5 l6 l7; have HB1 := Lib.hid (HB0.out.trans (hb1.mono (by simp; omega))); clear g0 g1 hb1)
    go_ret
    exact ⟨ret_bool (by simp [ruleEq, q0, q1, q2]), by first | exact HB1.out | exact HB0.out⟩
  cases q3 : (testsEq a.tests b.tests)
  case false =>
    go_enter Tryz.func55, Tryz.ntmps55
    go_wp2_with (go_at_call 79; refine (c_eqTests a.ta b.ta a.tc b.tc a.tests b.tests _ (HA.out.1.below HB0.out (Nat.le_refl _)) (HB.out.1.below HB0.out (Nat.le_refl _))).mono ?_; rintro e w1 ⟨rfl, hb1⟩; have g0 := (hb1.block w.heap.size (by simp; omega)).trans HX.out.1; have g1 := (hb1.block (w.heap.size + 1) (by simp)).trans HX.out.2; have k4 := cell_of_block g0 4; have k5 := cell_of_block g0 5; have k6 := cell_of_block g0 6; have k7 := cell_of_block g0 7; have l4 := cell_of_block g1 4; have l5 := cell_of_block g1 5; have l6 := cell_of_block g1 6; have l7 := cell_of_block g1 7; simp at k4 k5 k6 k7 l4 l5 l6 l7; have HB1 := Lib.hid (HB0.out.trans (hb1.mono (by simp; omega))); clear g0 g1 hb1)
    go_ret
    exact ⟨ret_bool (by simp [ruleEq, q0, q1, q2, q3]), by first | exact HB1.out | exact HB0.out⟩
  cases q4 : (a.watch == b.watch)
  case false =>
    go_enter Tryz.func55, Tryz.ntmps55
    go_wp2_with (go_at_call 79; refine (c_eqTests a.ta b.ta a.tc b.tc a.tests b.tests _ (HA.out.1.below HB0.out (Nat.le_refl _)) (HB.out.1.below HB0.out (Nat.le_refl _))).mono ?_; rintro e w1 ⟨rfl, hb1⟩; have g0 := (hb1.block w.heap.size (by simp; omega)).trans HX.out.1; have g1 := (hb1.block (w.heap.size + 1) (by simp)).trans HX.out.2; have k4 := cell_of_block g0 4; have k5 := cell_of_block g0 5; have k6 := cell_of_block g0 6; have k7 := cell_of_block g0 7; have l4 := cell_of_block g1 4; have l5 := cell_of_block g1 5; have l6 := cell_of_block g1 6; have l7 := cell_of_block g1 7; simp at k4 k5 k6 k7 l4 l5 l6 l7; have HB1 := Lib.hid (HB0.out.trans (hb1.mono (by simp; omega))); clear g0 g1 hb1)
    go_ret
    exact ⟨ret_bool (by simp [ruleEq, q0, q1, q2, q3, q4]), by first | exact HB1.out | exact HB0.out⟩
  cases q5 : (a.path.toList == b.path.toList)
  case false =>
    go_enter Tryz.func55, Tryz.ntmps55
    go_wp2_with (go_at_call 79; refine (c_eqTests a.ta b.ta a.tc b.tc a.tests b.tests _ (HA.out.1.below HB0.out (Nat.le_refl _)) (HB.out.1.below HB0.out (Nat.le_refl _))).mono ?_; rintro e w1 ⟨rfl, hb1⟩; have g0 := (hb1.block w.heap.size (by simp; omega)).trans HX.out.1; have g1 := (hb1.block (w.heap.size + 1) (by simp)).trans HX.out.2; have k4 := cell_of_block g0 4; have k5 := cell_of_block g0 5; have k6 := cell_of_block g0 6; have k7 := cell_of_block g0 7; have l4 := cell_of_block g1 4; have l5 := cell_of_block g1 5; have l6 := cell_of_block g1 6; have l7 := cell_of_block g1 7; simp at k4 k5 k6 k7 l4 l5 l6 l7; have HB1 := Lib.hid (HB0.out.trans (hb1.mono (by simp; omega))); clear g0 g1 hb1)
    go_ret
    exact ⟨ret_bool (by simp [ruleEq, q0, q1, q2, q3, q4, q5]), by first | exact HB1.out | exact HB0.out⟩
  cases q6 : (a.perm == b.perm)
  case false =>
    go_enter Tryz.func55, Tryz.ntmps55
    go_wp2_with (go_at_call 79; refine (c_eqTests a.ta b.ta a.tc b.tc a.tests b.tests _ (HA.out.1.below HB0.out (Nat.le_refl _)) (HB.out.1.below HB0.out (Nat.le_refl _))).mono ?_; rintro e w1 ⟨rfl, hb1⟩; have g0 := (hb1.block w.heap.size (by simp; omega)).trans HX.out.1; have g1 := (hb1.block (w.heap.size + 1) (by simp)).trans HX.out.2; have k4 := cell_of_block g0 4; have k5 := cell_of_block g0 5; have k6 := cell_of_block g0 6; have k7 := cell_of_block g0 7; have l4 := cell_of_block g1 4; have l5 := cell_of_block g1 5; have l6 := cell_of_block g1 6; have l7 := cell_of_block g1 7; simp at k4 k5 k6 k7 l4 l5 l6 l7; have HB1 := Lib.hid (HB0.out.trans (hb1.mono (by simp; omega))); clear g0 g1 hb1)
    go_ret
    exact ⟨ret_bool (by simp [ruleEq, q0, q1, q2, q3, q4, q5, q6]), by first | exact HB1.out | exact HB0.out⟩
  cases q7 : (a.key.toList == b.key.toList)
  case false =>
    go_enter Tryz.func55, Tryz.ntmps55
    go_wp2_with (go_at_call 79; refine (c_eqTests a.ta b.ta a.tc b.tc a.tests b.tests _ (HA.out.1.below HB0.out (Nat.le_refl _)) (HB.out.1.below HB0.out (Nat.le_refl _))).mono ?_; rintro e w1 ⟨rfl, hb1⟩; have g0 := (hb1.block w.heap.size (by simp; omega)).trans HX.out.1; have g1 := (hb1.block (w.heap.size + 1) (by simp)).trans HX.out.2; have k4 := cell_of_block g0 4; have k5 := cell_of_block g0 5; have k6 := cell_of_block g0 6; have k7 := cell_of_block g0 7; have l4 := cell_of_block g1 4; have l5 := cell_of_block g1 5; have l6 := cell_of_block g1 6; have l7 := cell_of_block g1 7; simp at k4 k5 k6 k7 l4 l5 l6 l7; have HB1 := Lib.hid (HB0.out.trans (hb1.mono (by simp; omega))); clear g0 g1 hb1)
    go_ret
    exact ⟨ret_bool (by simp [ruleEq, q0, q1, q2, q3, q4, q5, q6, q7]), by first | exact HB1.out | exact HB0.out⟩
  go_enter Tryz.func55, Tryz.ntmps55
  go_wp2_with (go_at_call 79; refine (c_eqTests a.ta b.ta a.tc b.tc a.tests b.tests _ (HA.out.1.below HB0.out (Nat.le_refl _)) (HB.out.1.below HB0.out (Nat.le_refl _))).mono ?_; rintro e w1 ⟨rfl, hb1⟩; have g0 := (hb1.block w.heap.size (by simp; omega)).trans HX.out.1; have g1 := (hb1.block (w.heap.size + 1) (by simp)).trans HX.out.2; have k4 := cell_of_block g0 4; have k5 := cell_of_block g0 5; have k6 := cell_of_block g0 6; have k7 := cell_of_block g0 7; have l4 := cell_of_block g1 4; have l5 := cell_of_block g1 5; have l6 := cell_of_block g1 6; have l7 := cell_of_block g1 7; simp at k4 k5 k6 k7 l4 l5 l6 l7; have HB1 := Lib.hid (HB0.out.trans (hb1.mono (by simp; omega))); clear g0 g1 hb1)
  go_ret
  exact ⟨ret_bool (by simp [ruleEq, q0, q1, q2, q3, q4, q5, q6, q7]), by first | exact HB1.out | exact HB0.out⟩
end Go.Proofs.YtnbfenapnfbmeaaGreat
