/- Contracts: the check of a rule (the reference). -/
import Derived.Test.YtnbfenapnfbmeaaGreatC4
import Derived.StillTailTactics
import Derived.Deep.DeepCutAuto
import Derived.Deep.CutBlock
import Derived.Test.YtnbfenapnfbmeaaGreatN3
namespace Go.Proofs.YtnbfenapnfbmeaaGreat
open Go.RowKit
set_option maxRecDepth 100000 in
set_option maxHeartbeats 4000000 in
theorem c_rruleCheck (r : Rule) (w : World) (hr : RuleAt w r) : Calls Tryz.prog 49 #[r.v] w fun e w' => e = .returned (.int .i64 (ruleCheck r)) ∧ Below w.heap.size w w' := by
  have hl1 := hr.1.1
  have hp := hr.2.2.2.1
  have hk := hr.2.2.2.2
  have HR := Lib.hid hr
  clear hr
  have hb0 : Below w.heap.size w (w.alloc (ruleBox r)) := (Below.refl _ w).alloc (Nat.le_refl _) _
  have HB0 := Lib.hid hb0
  clear hb0
  go_enter Tryz.func49, Tryz.ntmps49
  go_upto_region 1 with fail
  go_cut [13] (fun v wc => v = .bool (listBad r) ∧ wc = w.alloc (ruleBox r))
  case first =>
    go_wp2_with fail
    all_goals (go_meet; refine ⟨?_, rfl⟩; simp_all [listBad])
  case rest =>
    obtain ⟨rfl, rfl⟩ := hcut
    cases hq1 : listBad r
    case true => (go_wp2; go_ret; exact ⟨ret_int (by simp [ruleCheck, *]), HB0.out⟩)
    have H1 := Lib.hid hq1
    clear hq1
    go_upto_region 3 with fail
    go_cut [21] (fun v wc => v = .bool (actBad r) ∧ wc = w.alloc (ruleBox r))
    case first =>
      go_wp2_with fail
      all_goals (go_meet; refine ⟨congrArg Value.bool ?_, rfl⟩; rw [Bool.eq_iff_iff]; simp [actBad]; omega)
    case rest =>
      obtain ⟨rfl, rfl⟩ := hcut
      cases hq2 : actBad r
      case true => (go_wp2; go_ret; exact ⟨ret_int (by simp [ruleCheck, H1.out, *]), HB0.out⟩)
      have H2 := Lib.hid hq2
      clear hq2
      go_upto_region 5 with fail
      go_cut [3] (fun v wc => v = .bool (r.list == 2 || r.list == 3) ∧ wc = w.alloc (ruleBox r))
      case first =>
        go_wp2_with fail
        all_goals (go_meet; refine ⟨congrArg Value.bool ?_, rfl⟩; simp_all)
      case rest =>
      obtain ⟨rfl, rfl⟩ := hcut
      have hcb : callsBad r = if r.list == 2 || r.list == 3 then r.calls == 0 || !maskValid r.calls else r.calls != 0 := rfl
      have HCB := Lib.hid hcb
      clear hcb
      generalize hls : (r.list == 2 || r.list == 3) = ls at HCB
      clear hls
      go_upto_region 6 with fail
      go_cut [50] (fun v wc => v = .bool (callsBad r) ∧ wc = w.alloc (ruleBox r))
      case first =>
        cases ls
        all_goals
          go_wp2_with (go_at_call 76; refine (c_rvalid _ _).mono ?_; rintro e w' ⟨rfl, rfl⟩)
        all_goals (go_meet; refine ⟨congrArg Value.bool ?_, rfl⟩; rw [HCB.out]; simp_all)
      case rest =>
        obtain ⟨rfl, rfl⟩ := hcut
        cases hq3 : callsBad r
        case true => (go_wp2; go_ret; exact ⟨ret_int (by simp [ruleCheck, H1.out, H2.out, *]), HB0.out⟩)
        have H3 := Lib.hid hq3
        clear hq3
        go_upto_region 8 with fail
        have hl8 : 8 < r.tests.length ∨ r.tests.length ≤ 8 := by omega
        rcases hl8 with hl8 | hl8
        · have hl9 : (8 : Int) < (r.tests.length : Int) := by omega
          go_wp2
          go_ret
          exact ⟨ret_int (by simp [ruleCheck, H1.out, H2.out, H3.out, *]), HB0.out⟩
        have hl9 : ¬ (8 : Int) < (r.tests.length : Int) := by omega
        have HP : Hid (ruleCheck r = if testsCheck r.list r.tests != 0 then testsCheck r.list r.tests else if watchBad r then 134 else if 31 < r.key.size then 135 else 0) := Lib.hid (by
          have h8 : ¬ 8 < r.tests.length := by omega
          simp [ruleCheck, H1.out, H2.out, H3.out, h8])
        go_upto_block 0 with fail
        go_cut [] (fun wc => Aside (testsCheck r.list r.tests = 0) ∧ Aside (Below w.heap.size w wc) ∧ wc.heap[w.heap.size]? = some (ruleBox r))
        case first =>
          go_wp2_with fail
          go_loopg [4] r.tests.length (fun gg i wr => ∃ k : Nat, k ≤ r.tests.length ∧ r.tests.length - k ≤ gg ∧ i = .int .i64 k ∧ Aside (testsCheck r.list r.tests = testsCheck r.list (r.tests.drop k)) ∧ Aside (Below w.heap.size w wr) ∧ wr.heap[w.heap.size]? = some (ruleBox r))
          case atStart => exact ⟨0, Nat.zero_le _, by omega, rfl, rfl, HB0.out, heap_new _ _⟩
          case round =>
            obtain ⟨k, hk, hg, rfl, HT, HB, hbox⟩ := hrel
            have e0 := cell_of_block hbox 0
            have e3 := cell_of_block hbox 3
            simp at e0 e3
            by_cases hlt : k < r.tests.length
            · obtain ⟨b, o, hta, hb, d0, d1, d2, d3, d4⟩ := HR.out.1.at HB.out k hlt
              have hs := testsCheck_drop r.list r.tests k hlt
              generalize r.tests[k] = x at d0 d1 d2 d3 d4 hs
              have HS := Lib.hid hs
              clear hs
              rw [hta] at e3
              have HTA := Lib.hid hta
              clear hta
              have hl2 : (k : Int) < (r.tests.length : Int) := by omega
              go_wp2
              go_still_tail 7, (by kernel_rfl)
              change wpList _ _ _ _ _ wr.drew
              have HB2 : Hid (Below w.heap.size w wr.drew) := Lib.hid (pw_drew HB.out)
              have hbox2 : wr.drew.heap[w.heap.size]? = some (ruleBox r) := hbox
              have hcall := c_rtestCheck x r.list wr.drew
              clear hbox HB d0 d1 d2 d3 d4 e0 e3
              generalize wr.drew = w2 at hcall hbox2 HB2 ⊢
              cases hq : testCheck x r.list == 0 with
              | true =>
                have hq0 : testCheck x r.list = 0 := by simpa using hq
                rw [hq0] at hcall
                rw [hq] at HS
                clear hq hq0
                go_wp2_with (go_at_call 77; refine hcall.mono ?_; rintro e w' ⟨rfl, hb'⟩)
                go_roundg (r.tests.length - (k + 1))
                case measure => omega
                case rel => exact ⟨k + 1, by omega, by omega, by go_num, (by show _ = _; rw [HT, HS.out]; simp), HB2.out.trans (hb'.mono HB2.out.size), (hb'.block _ (lt_of_some hbox2)).trans hbox2⟩
              | false =>
                have hqn : (testCheck x r.list != 0) = true := by simp [bne, hq]
                rw [hq] at HS
                go_wp2_with (go_at_call 77; refine hcall.mono ?_; rintro e w' ⟨rfl, hb'⟩)
                go_ret
                refine ⟨ret_int ?_, HB2.out.trans (hb'.mono HB2.out.size)⟩
                rw [HP.out, HT, HS.out]
                simp [hqn]
            · have he : k = r.tests.length := by omega
              have hn : ¬ (k : Int) < (r.tests.length : Int) := by omega
              have hz : testsCheck r.list r.tests = 0 := by rw [HT, he, List.drop_length]; rfl
              have HZ := Lib.hid hz
              clear hz he HT
              go_wp2
              go_meet
              exact ⟨HZ.out, HB.out, hbox⟩
        case rest =>
          obtain ⟨HZ, HB, hbox⟩ := hcut
          have HP2 : Hid (ruleCheck r = if watchBad r = true then 134 else if 31 < r.key.size then 135 else 0) := Lib.hid (by
            have hz := HZ
            rw [HP.out, show testsCheck r.list r.tests = 0 from hz]
            simp)
          clear HP HZ
          have e0 := cell_of_block hbox 0
          have e4 := cell_of_block hbox 4
          have e5 := cell_of_block hbox 5
          have e6 := cell_of_block hbox 6
          simp at e0 e4 e5 e6
          go_upto_block 2 with fail
          go_cut [] (fun wc => Aside (watchBad r = false) ∧ Aside (Below w.heap.size w wc) ∧ wc.heap[w.heap.size]? = some (ruleBox r))
          case first =>
            have hcl := c_rclean r.path hp.1 wc
            have hwb : watchBad r = if r.watch == 0 then !r.path.toList.isEmpty || r.perm != 0 else !(r.watch == 1 || r.watch == 2) || r.list != 3 || !cleanB r.path || decide (128 < r.path.size) || decide (r.perm < 1) || decide (15 < r.perm) := rfl
            have HW := Lib.hid hwb
            clear hwb
            have hlt := lt_of_some hbox
            go_wp2_with (go_at_call 78; refine hcl.mono ?_; rintro e w' ⟨rfl, hb'⟩; have g5 := (hb'.cell (p := ⟨w.heap.size, 5, none⟩) hlt).trans e5; have g6 := (hb'.cell (p := ⟨w.heap.size, 6, none⟩) hlt).trans e6; have gb := (hb'.block _ hlt).trans hbox; have gB := Lib.hid (Below.trans HB (hb'.mono HB.out.size)))
            all_goals first
            | (go_ret
               have hwb : watchBad r = true := by
                 rw [HW.out]
                 first | (simp [*]; done) | (simp [*]; omega)
               refine ⟨ret_int (by rw [HP2.out, hwb]; rfl), ?_⟩
               first | exact HB.out | exact gB.out)
            | (go_meet
               have hwb : watchBad r = false := by
                 rw [HW.out]
                 first | (simp [*]; done) | (simp [*]; omega)
               refine ⟨hwb, ?_, ?_⟩
               · first | exact HB.out | exact gB.out
               · first | exact hbox | exact gb)
          case rest =>
            obtain ⟨HW, HB2, hbox2⟩ := hcut
            have HP3 : Hid (ruleCheck r = if 31 < r.key.size then 135 else 0) := Lib.hid (by
              have hz : watchBad r = false := HW
              rw [HP2.out, hz]
              simp)
            have e7 := cell_of_block hbox2 7
            simp at e7
            clear HP2 HW
            rcases (by omega : 31 < r.key.size ∨ r.key.size ≤ 31) with hk8 | hk8
            · have hk9 : (31 : Int) < (r.key.size : Int) := by omega
              go_wp2
              go_ret
              exact ⟨ret_int (by rw [HP3.out, if_pos hk8]), HB2.out⟩
            · have hk9 : ¬ (31 : Int) < (r.key.size : Int) := by omega
              go_wp2
              go_ret
              exact ⟨ret_int (by rw [HP3.out, if_neg (by omega)]), HB2.out⟩
end Go.Proofs.YtnbfenapnfbmeaaGreat
