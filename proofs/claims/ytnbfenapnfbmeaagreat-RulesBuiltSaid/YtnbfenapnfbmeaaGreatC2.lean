/- Contracts: two rules are equal. -/
import Derived.Test.YtnbfenapnfbmeaaGreatC1
namespace Go.Proofs.YtnbfenapnfbmeaaGreat
open Go.RowKit
attribute [local go_sem high] eqTest
theorem testEq_form (a b : Test) : testEq a b = (a.field == b.field && (a.op == b.op && (a.num == b.num && (a.text.toList == b.text.toList && (a.other == b.other))))) := rfl
set_option maxHeartbeats 1000000 in
theorem c_requal (a b : Rule) (w : World) (ha : RuleAt w a) (hb : RuleAt w b) :
    Calls Tryz.prog 53 #[a.v, b.v] w fun e w' => e = .returned (.bool (ruleEq a b)) ∧ Below w.heap.size w w' := by
  have ha1 := ha.1.1
  have hb1 := hb.1.1
  have HAA := Lib.hid ha
  have HBB := Lib.hid hb
  clear ha hb
  by_cases hall : a.list = b.list ∧ a.action = b.action ∧ a.calls = b.calls ∧ a.watch = b.watch ∧ a.path.toList = b.path.toList ∧ a.perm = b.perm ∧ a.key.toList = b.key.toList ∧ a.tests.length = b.tests.length
  · have HE : Hid (ruleEq a b = testsEq a.tests b.tests) := Lib.hid (by obtain ⟨e1, e2, e3, e4, e5, e6, e7, e8⟩ := hall; simp [ruleEq, *])
    have HA := Lib.hid hall
    have q1 : (a.list != b.list) = false := by simp [hall.1]
    have q2 : (a.action != b.action) = false := by simp [hall.2.1]
    have q3 : (a.calls != b.calls) = false := by simp [hall.2.2.1]
    have q4 : (a.watch != b.watch) = false := by simp [hall.2.2.2.1]
    have q5 : (a.path.toList == b.path.toList) = true := by simp [hall.2.2.2.2.1]
    have q6 : (a.perm != b.perm) = false := by simp [hall.2.2.2.2.2.1]
    have q7 : (a.key.toList == b.key.toList) = true := by simp [hall.2.2.2.2.2.2.1]
    have q8 : ((a.tests.length : Int) != (b.tests.length : Int)) = false := by simp [hall.2.2.2.2.2.2.2]
    clear hall
    go_enter Tryz.func53, Tryz.ntmps53
    go_wp2
    clear q1 q2 q3 q4 q5 q6 q7 q8
    go_loopg [5] a.tests.length (fun gg i wr => ∃ k : Nat, k ≤ a.tests.length ∧ a.tests.length - k ≤ gg ∧ i = .int .i64 k ∧ Aside (testsEq a.tests b.tests = testsEq (a.tests.drop k) (b.tests.drop k)) ∧ Aside (Below w.heap.size w wr) ∧ wr.cell? ⟨w.heap.size, 3, none⟩ = some (.slice a.ta a.tests.length a.tc) ∧ wr.cell? ⟨w.heap.size + 1, 3, none⟩ = some (.slice b.ta b.tests.length b.tc))
    case atStart => exact ⟨0, Nat.zero_le _, by omega, rfl, rfl, ((Below.refl _ w).alloc (Nat.le_refl _) _).alloc (by simp) _, by simp, by simp⟩
    case round =>
      obtain ⟨k, hk, hg, rfl, HT, HB, hca, hcb⟩ := hrel
      by_cases hlt : k < a.tests.length
      · have hltb : k < b.tests.length := by have := HA.out.2.2.2.2.2.2.2; omega
        obtain ⟨b1, o1, hta, hb1, d10, d11, d12, d13, d14⟩ := HAA.out.1.at HB.out k hlt
        obtain ⟨b2, o2, htb, hb2, d20, d21, d22, d23, d24⟩ := HBB.out.1.at HB.out k hltb
        have hs := testsEq_drop k a.tests b.tests hlt hltb
        generalize a.tests[k] = x at d10 d11 d12 d13 d14 hs
        generalize b.tests[k] = y at d20 d21 d22 d23 d24 hs
        have HS := Lib.hid hs
        clear hs
        rw [hta] at hca
        rw [htb] at hcb
        have hl1 : (k : Int) < (a.tests.length : Int) := by omega
        have hl2 : (k : Int) < (b.tests.length : Int) := by omega
        have HTA := Lib.hid hta
        have HTB := Lib.hid htb
        clear hta htb
        go_wp2
        go_quiet (fail)
        go_wp2
        · have hx : testEq x y = false := by have h : (!testEq x y) = true := by assumption
                                             simpa using h
          have hz : ruleEq a b = false := by rw [HE.out, HT, HS.out, hx]; rfl
          clear HT
          go_ret
          exact ⟨ret_bool hz.symm, pw_drewN HB.out _⟩
        · have hx : testEq x y = true := by have h : (!testEq x y) = false := by assumption
                                            simpa using h
          have hz : Aside (testsEq a.tests b.tests = testsEq (List.drop (k + 1) a.tests) (List.drop (k + 1) b.tests)) := by show _ = _; rw [HT, HS.out, hx]; rfl
          clear HT
          go_roundg (a.tests.length - (k + 1))
          case measure => omega
          case rel => exact ⟨k + 1, by omega, by omega, by go_num, hz, pw_drewN HB.out _, by rw [HTA.out]; simpa using hca, by rw [HTB.out]; simpa using hcb⟩
      · have he : k = a.tests.length := by omega
        have hn : ¬ (k : Int) < (a.tests.length : Int) := by omega
        have hz : testsEq a.tests b.tests = true := by
          rw [HT, he, List.drop_length, HA.out.2.2.2.2.2.2.2, List.drop_length]
          rfl
        have HZ := Lib.hid hz
        clear hz he HT
        go_wp2
        go_ret
        exact ⟨ret_bool (by rw [HE.out, HZ.out]), HB.out⟩
  · have HN := Lib.hid hall
    clear hall
    go_enter Tryz.func53, Tryz.ntmps53
    go_wp2
    all_goals first
    | (go_ret; refine ⟨ret_bool ?_, ((Below.refl _ w).alloc (Nat.le_refl _) _).alloc (by simp) _⟩; first | (simp [ruleEq, *]; done) | (rw [ruleEq, testsEq_len _ _ (by intro hn; simp_all)]; simp; done))
    | (exfalso; refine HN.out ⟨by assumption, by assumption, by assumption, by assumption, by assumption, by assumption, by assumption, ?_⟩; have hn : ((a.tests.length : Int) != (b.tests.length : Int)) = false := (by assumption); have hm : (a.tests.length : Int) = b.tests.length := (by simpa using hn); omega)
end Go.Proofs.YtnbfenapnfbmeaaGreat
