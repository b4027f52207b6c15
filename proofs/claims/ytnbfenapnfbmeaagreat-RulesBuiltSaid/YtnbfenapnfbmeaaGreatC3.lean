/- Contracts: a rule is found in a list (the reference). -/
import Derived.Test.YtnbfenapnfbmeaaGreatC2
import Derived.StillTailTactics
namespace Go.Proofs.YtnbfenapnfbmeaaGreat
open Go.RowKit
set_option maxRecDepth 100000 in
set_option maxHeartbeats 1000000 in
theorem c_rfind (a : Option Addr) (c : Nat) (rs : List Rule) (r : Rule) (w : World) (hl : RulesAt w a rs) (hr : RuleAt w r) :
    Calls Tryz.prog 24 #[.slice a rs.length c, r.v] w fun e w' => e = .returned (.int .i64 (findRule rs r)) ∧ Below w.heap.size w w' := by
  have hl1 := hl.1
  have HL := Lib.hid hl
  have HR := Lib.hid hr
  clear hl hr
  go_enter Tryz.func24, Tryz.ntmps24
  go_wp2
  go_loopg [5] rs.length (fun gg i wr => ∃ k : Nat, k ≤ rs.length ∧ rs.length - k ≤ gg ∧ i = .int .i64 k ∧ Aside (findRule rs r = findIdx (fun x => ruleEq x r) k (rs.drop k)) ∧ Aside (Below w.heap.size w wr) ∧ wr.heap[w.heap.size]? = some (.cells #[.int .i64 r.list, .int .i64 r.action, .int .u64 r.calls, .slice r.ta r.tests.length r.tc, .int .i64 r.watch, .string r.path, .int .i64 r.perm, .string r.key] 48))
  case atStart => exact ⟨0, Nat.zero_le _, by omega, rfl, rfl, (Below.refl _ w).alloc (Nat.le_refl _) _, heap_new _ _⟩
  case round =>
    obtain ⟨k, hk, hg, rfl, HT, HB, hbox⟩ := hrel
    by_cases hlt : k < rs.length
    · obtain ⟨b, o, ha, hb, hat, d0, d1, d2, d3, d4, d5, d6, d7⟩ := HL.out.at HB.out k hlt
      have hs := findIdx_drop (fun x => ruleEq x r) rs k hlt
      generalize rs[k] = x at hat d0 d1 d2 d3 d4 d5 d6 d7 hs
      have HS := Lib.hid hs
      have HAT := Lib.hid hat
      have HA := Lib.hid ha
      clear hs hat
      have hl2 : (k : Int) < (rs.length : Int) := by omega
      subst ha
      have e0 := cell_of_block hbox 0
      have e1 := cell_of_block hbox 1
      have e2 := cell_of_block hbox 2
      have e3 := cell_of_block hbox 3
      have e4 := cell_of_block hbox 4
      have e5 := cell_of_block hbox 5
      have e6 := cell_of_block hbox 6
      have e7 := cell_of_block hbox 7
      simp at e0 e1 e2 e3 e4 e5 e6 e7
      go_wp2
      go_still_tail 5, (by kernel_rfl)
      change wpList _ _ _ _ _ wr.drew
      have hB2 : Below w.heap.size w wr.drew := pw_drew HB.out
      have hbox2 : wr.drew.heap[w.heap.size]? = some (.cells #[.int .i64 r.list, .int .i64 r.action, .int .u64 r.calls, .slice r.ta r.tests.length r.tc, .int .i64 r.watch, .string r.path, .int .i64 r.perm, .string r.key] 48) := hbox
      have hcall := c_requal x r wr.drew (HAT.out.below hB2 (Nat.le_refl _)) (HR.out.below hB2 (Nat.le_refl _))
      have HB2 := Lib.hid hB2
      clear hbox HB hB2 d0 d1 d2 d3 d4 d5 d6 d7 e0 e1 e2 e3 e4 e5 e6 e7
      generalize wr.drew = w2 at hcall hbox2 HB2 ⊢
      cases hq : ruleEq x r with
      | true =>
        rw [hq] at hcall HS
        go_wp2_with (go_at_call 53; refine hcall.mono ?_; rintro e w' ⟨rfl, hb'⟩)
        go_ret
        refine ⟨ret_int ?_, HB2.out.trans (hb'.mono HB2.out.size)⟩
        rw [HT, HS.out, if_pos trivial]
      | false =>
        rw [hq] at hcall HS
        go_wp2_with (go_at_call 53; refine hcall.mono ?_; rintro e w' ⟨rfl, hb'⟩)
        go_roundg (rs.length - (k + 1))
        case measure => omega
        case rel => exact ⟨k + 1, by omega, by omega, by go_num, (by show _ = _; rw [HT, HS.out]; simp), HB2.out.trans (hb'.mono HB2.out.size), (hb'.block _ (lt_of_some hbox2)).trans hbox2⟩
    · have he : k = rs.length := by omega
      have hn : ¬ (k : Int) < (rs.length : Int) := by omega
      have hz : findRule rs r = -1 := by rw [HT, he, List.drop_length]; rfl
      have HZ := Lib.hid hz
      clear hz he HT
      go_wp2
      go_ret
      exact ⟨ret_int HZ.out.symm, HB.out⟩
end Go.Proofs.YtnbfenapnfbmeaaGreat
