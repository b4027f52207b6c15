/- Contracts: the check of a rule (the program). -/
import Derived.Test.YtnbfenapnfbmeaaGreatE4
import Derived.Test.YtnbfenapnfbmeaaGreatN5
import Derived.Test.YtnbfenapnfbmeaaGreatC6
set_option linter.unusedSimpArgs false
set_option linter.unusedVariables false
namespace Go.Proofs.YtnbfenapnfbmeaaGreat
open Go.RowKit
theorem watchOk_eq (r : Rule) : (!watchBad r) = if r.watch == 0 then r.path.toList == [] && r.perm == 0 else decide (0 < r.watch) && decide (r.watch < 3) && r.list == 3 && cleanB r.path && decide ((r.path.size : Int) ≤ 128) && decide (1 ≤ r.perm) && decide (r.perm ≤ 15) := by
  unfold watchBad
  cases h0 : r.watch == 0
  · have h1 : (r.watch == 1 || r.watch == 2) = (decide (0 < r.watch) && decide (r.watch < 3)) := by rw [Bool.eq_iff_iff]; simp; omega
    have h2 : decide (128 < r.path.size) = !decide ((r.path.size : Int) ≤ 128) := by rw [Bool.eq_iff_iff]; simp; omega
    have h3 : decide (r.perm < 1) = !decide (1 ≤ r.perm) := by rw [Bool.eq_iff_iff]; simp
    have h4 : decide (15 < r.perm) = !decide (r.perm ≤ 15) := by rw [Bool.eq_iff_iff]; simp
    rw [h1, h2, h3, h4]
    simp [bne, Bool.and_assoc]
  · cases r.path.toList <;> simp [bne]
set_option maxRecDepth 100000 in
set_option maxHeartbeats 4000000 in
theorem c_watched (r : Rule) (w : World) (hr : RuleAt w r) : Calls Tryz.prog 71 #[r.v] w fun e w' => e = .returned (.bool (!watchBad r)) ∧ Below w.heap.size w w' := by
  have hp := hr.2.2.2.1
  have hb0 : Below w.heap.size w (w.alloc (ruleBox r)) := (Below.refl _ w).alloc (Nat.le_refl _) _
  have hbox := heap_new w (ruleBox r)
  have hcl := c_pclean r.path hp (w.alloc (ruleBox r))
  have HB := Lib.hid hb0
  have hlt : w.heap.size < (w.alloc (ruleBox r)).heap.size := by rw [World.size_alloc]; exact Nat.lt_succ_self _
  clear hb0 hr
  have HW := Lib.hid (watchOk_eq r)
  go_enter Tryz.func71, Tryz.ntmps71
  cases h3 : (r.list == 3)
  all_goals go_wp2_with (go_at_call 90; refine hcl.mono ?_; rintro e w' ⟨rfl, hb'⟩; have g5 := cell_of_block ((hb'.block w.heap.size hlt).trans hbox) 5; have g6 := cell_of_block ((hb'.block w.heap.size hlt).trans hbox) 6; simp at g5 g6; have gB := Lib.hid (Below.trans HB.out (hb'.mono HB.out.size)); clear hb')
  all_goals
    go_ret
    refine ⟨ret_bool ?_, ?_⟩
    · rw [HW.out]
      first | (simp [*]; done) | (clear hcl hbox hlt; rw [Bool.eq_iff_iff]; simp [*]; done) | (clear hcl hbox hlt; rw [Bool.eq_iff_iff]; simp [*]; omega) | trace_state
    · first | exact gB.out | exact HB.out
set_option maxRecDepth 100000 in
set_option maxHeartbeats 4000000 in
theorem c_ruleCheck (r : Rule) (w : World) (hr : RuleAt w r) : Calls Tryz.prog 45 #[r.v] w fun e w' => e = .returned (.int .i64 (ruleCheck r)) ∧ Below w.heap.size w w' := by
  have hl1 := hr.1.1
  have hk := hr.2.2.2.2
  have HR := Lib.hid hr
  clear hr
  have hb0 : Below w.heap.size w (w.alloc (ruleBox r)) := (Below.refl _ w).alloc (Nat.le_refl _) _
  have HB0 := Lib.hid hb0
  clear hb0
  go_enter Tryz.func45, Tryz.ntmps45
  go_upto_region 1 with fail
  go_cut [6] (fun v wc => v = .bool (listBad r) ∧ wc = w.alloc (ruleBox r))
  case first =>
    go_wp2_with fail
    all_goals (go_meet; refine ⟨congrArg Value.bool ?_, rfl⟩; rw [Bool.eq_iff_iff]; simp [listBad]; omega)
  case rest =>
    obtain ⟨rfl, rfl⟩ := hcut
    cases hq1 : listBad r
    case true => (go_wp2; go_ret; exact ⟨ret_int (by simp [ruleCheck, *]), HB0.out⟩)
    have H1 := Lib.hid hq1
    clear hq1
    go_upto_region 3 with fail
    go_cut [15] (fun v wc => v = .bool (actBad r) ∧ wc = w.alloc (ruleBox r))
    case first =>
      go_wp2_with fail
      all_goals (go_meet; refine ⟨congrArg Value.bool ?_, rfl⟩; rw [Bool.eq_iff_iff]; simp [actBad]; omega)
    case rest =>
      obtain ⟨rfl, rfl⟩ := hcut
      cases hq2 : actBad r
      case true => (go_wp2; go_ret; exact ⟨ret_int (by simp [ruleCheck, H1.out, *]), HB0.out⟩)
      have H2 := Lib.hid hq2
      clear hq2
      have hcb : callsBad r = if r.list == 2 || r.list == 3 then r.calls == 0 || !maskValid r.calls else r.calls != 0 := rfl
      have HCB := Lib.hid hcb
      clear hcb
      have hwc := c_withCalls r.list (w.alloc (ruleBox r))
      generalize hls : (r.list == 2 || r.list == 3) = ls at HCB hwc
      clear hls
      go_upto_region 5 with fail
      go_cut [24] (fun v wc => v = .bool (callsBad r) ∧ wc = w.alloc (ruleBox r))
      case first =>
        cases ls
        all_goals
          go_wp2_with (first | (go_at_call 69; refine hwc.mono ?_; rintro e w' ⟨rfl, rfl⟩) | (go_at_call 70; refine (c_mvalid _ _).mono ?_; rintro e w' ⟨rfl, rfl⟩))
        all_goals (go_meet; refine ⟨congrArg Value.bool ?_, rfl⟩; rw [HCB.out]; simp_all)
      case rest =>
        obtain ⟨rfl, rfl⟩ := hcut
        clear hwc
        cases hq3 : callsBad r
        case true => (go_wp2; go_ret; exact ⟨ret_int (by simp [ruleCheck, H1.out, H2.out, *]), HB0.out⟩)
        have H3 := Lib.hid hq3
        clear hq3
        go_upto_region 7 with fail
        have hl8 : 8 < r.tests.length ∨ r.tests.length ≤ 8 := by omega
        rcases hl8 with hl8 | hl8
        · have hl9 : (8 : Int) < (r.tests.length : Int) := by omega
          go_wp2
          go_ret
          exact ⟨ret_int (by simp [ruleCheck, H1.out, H2.out, H3.out, *]), HB0.out⟩
        have hl9 : ¬ (8 : Int) < (r.tests.length : Int) := by omega
        have HP : Hid (ruleCheck r = if testsCheck r.list r.tests != 0 then testsCheck r.list r.tests else if watchBad r then 134 else if 31 < r.key.size then 135 else 0) := Lib.hid (by
          have h8 : ¬ 8 < r.tests.length := by omega
          simp [ruleCheck, H1.out, H2.out, H3.out, h8])
        go_upto_block 1 with fail
        go_cut [] (fun wc => Aside (testsCheck r.list r.tests = 0) ∧ Aside (Below w.heap.size w wc) ∧ wc.heap[w.heap.size]? = some (ruleBox r))
        case first =>
          have h00 := cell_of_block (heap_new w (ruleBox r)) 3
          simp at h00
          go_wp2_with fail
          go_loopg [58] r.tests.length (fun gg i wr => ∃ k : Nat, k ≤ r.tests.length ∧ r.tests.length - k ≤ gg ∧ i = .int .i64 k ∧ Aside (testsCheck r.list r.tests = testsCheck r.list (r.tests.drop k)) ∧ Aside (Below w.heap.size w wr) ∧ wr.heap[w.heap.size]? = some (ruleBox r))
          case atStart => exact ⟨0, Nat.zero_le _, by omega, rfl, rfl, HB0.out, heap_new _ _⟩
          case round =>
            obtain ⟨k, hk, hg, rfl, HT, HB, hbox⟩ := hrel
            have e0 := cell_of_block hbox 0
            simp at e0
            by_cases hlt : k < r.tests.length
            · obtain ⟨b, o, hta, hb, d0, d1, d2, d3, d4⟩ := HR.out.1.at HB.out k hlt
              have hs := testsCheck_drop r.list r.tests k hlt
              generalize r.tests[k] = x at d0 d1 d2 d3 d4 hs
              have HS := Lib.hid hs
              clear hs
              rw [hta]
              have HTA := Lib.hid hta
              clear hta
              have hl2 : (k : Int) < (r.tests.length : Int) := by omega
              have hbw : w.heap.size < wr.heap.size := lt_of_some hbox
              have hcall := c_testCheck x r.list
              cases hq : testCheck x r.list == 0 with
              | true =>
                have hq0 : testCheck x r.list = 0 := by simpa using hq
                rw [hq0] at hcall
                rw [hq] at HS
                clear hq hq0
                go_wp2_with (go_at_call 60; refine (hcall _).mono ?_; rintro e w' ⟨rfl, hb'⟩; have HBN := Lib.hid (Below.trans (HB.alloc HB.size _) (hb'.mono (by rw [World.size_alloc]; exact Nat.le_succ_of_le HB.size))); have hboxn := (hb'.block w.heap.size (by rw [World.size_alloc]; omega)).trans ((Below.heap_alloc _ _ _ hbw).trans hbox); clear hb')
                rw [← HTA.out]
                go_roundg (r.tests.length - (k + 1))
                case measure => omega
                case rel => exact ⟨k + 1, by omega, by omega, by go_num, (by show _ = _; rw [HT, HS.out]; simp), HBN.out, hboxn⟩
              | false =>
                have hqn : (testCheck x r.list != 0) = true := by simp [bne, hq]
                rw [hq] at HS
                go_wp2_with (go_at_call 60; refine (hcall _).mono ?_; rintro e w' ⟨rfl, hb'⟩; have HBN := Lib.hid (Below.trans (HB.alloc HB.size _) (hb'.mono (by rw [World.size_alloc]; exact Nat.le_succ_of_le HB.size))); clear hb')
                go_ret
                refine ⟨ret_int ?_, HBN.out⟩
                rw [HP.out, HT, HS.out]
                simp [hqn]
            · have he : k = r.tests.length := by omega
              have hn : ¬ (k : Int) < (r.tests.length : Int) := by omega
              have hz : testsCheck r.list r.tests = 0 := by rw [HT, he, List.drop_length]; rfl
              have HZ := Lib.hid hz
              clear hz he HT
              go_wp2
              go_meet
              exact ⟨HZ.out, HB.out, hbox⟩
        case rest =>
          obtain ⟨HZ, HB, hbox⟩ := hcut
          have HP2 : Hid (ruleCheck r = if watchBad r = true then 134 else if 31 < r.key.size then 135 else 0) := Lib.hid (by
            have hz := HZ
            rw [HP.out, show testsCheck r.list r.tests = 0 from hz]
            simp)
          clear HP HZ
          have e0 := cell_of_block hbox 0
          have e1 := cell_of_block hbox 1
          have e2 := cell_of_block hbox 2
          have e3 := cell_of_block hbox 3
          have e4 := cell_of_block hbox 4
          have e5 := cell_of_block hbox 5
          have e6 := cell_of_block hbox 6
          have e7 := cell_of_block hbox 7
          simp at e0 e1 e2 e3 e4 e5 e6 e7
          have hcw := c_watched r wc (HR.out.below HB (Nat.le_refl _))
          have hlt := lt_of_some hbox
          cases hw : watchBad r with
          | true =>
            rw [hw] at hcw HP2
            go_wp2_with (go_at_call 71; refine hcw.mono ?_; rintro e w' ⟨rfl, hb'⟩; have gB := Lib.hid (Below.trans HB (hb'.mono HB.size)); clear hb')
            go_ret
            exact ⟨ret_int (by rw [HP2.out]; rfl), gB.out⟩
          | false =>
            rw [hw] at hcw HP2
            rcases (by omega : 31 < r.key.size ∨ r.key.size ≤ 31) with hk8 | hk8
            · have hk9 : (31 : Int) < (r.key.size : Int) := by omega
              go_wp2_with (go_at_call 71; refine hcw.mono ?_; rintro e w' ⟨rfl, hb'⟩; have gB := Lib.hid (Below.trans HB (hb'.mono HB.size)); have g7 := cell_of_block ((hb'.block w.heap.size hlt).trans hbox) 7; simp at g7; clear hb')
              go_ret
              exact ⟨ret_int (by rw [HP2.out, if_neg (by simp), if_pos hk8]), gB.out⟩
            · have hk9 : ¬ (31 : Int) < (r.key.size : Int) := by omega
              go_wp2_with (go_at_call 71; refine hcw.mono ?_; rintro e w' ⟨rfl, hb'⟩; have gB := Lib.hid (Below.trans HB (hb'.mono HB.size)); have g7 := cell_of_block ((hb'.block w.heap.size hlt).trans hbox) 7; simp at g7; clear hb')
              go_ret
              exact ⟨ret_int (by rw [HP2.out, if_neg (by simp), if_neg (by omega)]), gB.out⟩
end Go.Proofs.YtnbfenapnfbmeaaGreat
