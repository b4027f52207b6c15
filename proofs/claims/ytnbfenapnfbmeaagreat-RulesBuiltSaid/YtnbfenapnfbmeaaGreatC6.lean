/- Contracts: the check of a list of rules (the reference). -/
import Derived.Test.YtnbfenapnfbmeaaGreatC3
import Derived.Test.YtnbfenapnfbmeaaGreatC5
namespace Go.Proofs.YtnbfenapnfbmeaaGreat
open Go.RowKit
set_option maxRecDepth 100000 in
set_option maxHeartbeats 2000000 in
theorem c_rcheck (a : Option Addr) (c : Nat) (rs : List Rule) (w : World) (hl : RulesAt w a rs) (hc : rs.length ≤ c) :
    Calls Tryz.prog 26 #[.slice a rs.length c] w fun e w' => e = .returned (.int .i64 (rulesCheck rs)) ∧ Below w.heap.size w w' := by
  have hl1 := hl.1
  have HL := Lib.hid hl
  clear hl
  have hsp : rulesCheck rs = if 24 < rs.length then 140 else chkFrom rs 0 rs := rfl
  have HSP := Lib.hid hsp
  clear hsp
  go_enter Tryz.func26, Tryz.ntmps26
  rcases (by omega : 24 < rs.length ∨ rs.length ≤ 24) with h24 | h24
  · have h25 : (24 : Int) < (rs.length : Int) := by omega
    go_wp2
    go_ret
    exact ⟨ret_int (by rw [HSP.out, if_pos h24]), Below.refl _ _⟩
  have h25 : ¬ (24 : Int) < (rs.length : Int) := by omega
  have HS2 : Hid (rulesCheck rs = chkFrom rs 0 rs) := Lib.hid (by rw [HSP.out, if_neg (by omega)])
  clear HSP
  go_wp2
  go_loopg [3] rs.length (fun gg i wr => ∃ k : Nat, k ≤ rs.length ∧ rs.length - k ≤ gg ∧ i = .int .i64 k ∧ Aside (rulesCheck rs = chkFrom rs k (rs.drop k)) ∧ Aside (Below w.heap.size w wr))
  case atStart => exact ⟨0, Nat.zero_le _, by omega, rfl, HS2.out, Below.refl _ _⟩
  case round =>
    obtain ⟨k, hk, hg, rfl, HT, HB⟩ := hrel
    by_cases hlt : k < rs.length
    · obtain ⟨b, o, ha, hb, hat, d0, d1, d2, d3, d4, d5, d6, d7⟩ := HL.out.at HB.out k hlt
      have hs := chkFrom_drop rs k hlt
      have hlx := HL.out.take k
      have htl : (rs.take k).length = k := by rw [List.length_take]; omega
      generalize rs[k] = x at hat d0 d1 d2 d3 d4 d5 d6 d7 hs
      have HS := Lib.hid hs
      have HAT := Lib.hid hat
      have HLX := Lib.hid hlx
      have HTL := Lib.hid htl
      clear hs hat hlx htl
      have hl2 : (k : Int) < (rs.length : Int) := by omega
      have hkc : (k : Int) ≤ (c : Int) := by omega
      subst ha
      have hcall := c_rruleCheck x wr (HAT.out.below HB.out (Nat.le_refl _))
      have hcall2 := fun w2 hb2 => c_rfind (some ⟨b, o, none⟩) c (rs.take k) x w2 (HLX.out.below hb2 (Nat.le_refl _)) (HAT.out.below hb2 (Nat.le_refl _))
      rw [HTL.out] at hcall2
      cases hq : ruleCheck x == 0 with
      | false =>
        have hqn : (ruleCheck x != 0) = true := by simp [bne, hq]
        go_wp2_with (go_at_call 49; refine hcall.mono ?_; rintro e w' ⟨rfl, hb'⟩)
        go_ret
        exact ⟨ret_int (by rw [HT, HS.out, if_pos hqn]), Below.trans HB (hb'.mono HB.out.size)⟩
      | true =>
        have hq0 : ruleCheck x = 0 := by simpa using hq
        rw [hq0] at hcall
        have HQ := Lib.hid hq0
        clear hq hq0
        have hcr : CellsR wr b (o + k * 8) x := ⟨d0, d1, d2, d3, d4, d5, d6, d7⟩
        have hbw : b < wr.heap.size := Nat.lt_of_lt_of_le hb HB.out.size
        go_wp2_with (go_at_call 49; refine hcall.mono ?_; rintro e w' ⟨rfl, hb'⟩; obtain ⟨f0, f1, f2, f3, f4, f5, f6, f7⟩ := hcr.block (hb'.block b hbw); clear d0 d1 d2 d3 d4 d5 d6 d7 hcr hcall)
        go_still_tail 7, (by kernel_rfl)
        change wpList _ _ _ _ _ w'.drew
        have HB2 : Hid (Below w.heap.size w w'.drew) := Lib.hid (pw_drew (Below.trans HB.out (hb'.mono HB.out.size)))
        have hc2 := hcall2 w'.drew HB2.out
        clear hcall2 f0 f1 f2 f3 f4 f5 f6 f7 hb' hbw HB
        generalize w'.drew = w2 at hc2 HB2 ⊢
        rcases (by omega : 0 ≤ findRule (rs.take k) x ∨ ¬ 0 ≤ findRule (rs.take k) x) with hf | hf
        all_goals
          have HF := Lib.hid hf
          generalize findRule (rs.take k) x = fr at hc2 HF HS hf
        · go_wp2_with (go_at_call 24; refine hc2.mono ?_; rintro e w' ⟨rfl, hb'⟩)
          go_ret
          exact ⟨ret_int (by rw [HT, HS.out, HQ.out, if_neg (by simp), if_pos HF.out]), HB2.out.trans (hb'.mono HB2.out.size)⟩
        · go_wp2_with (go_at_call 24; refine hc2.mono ?_; rintro e w' ⟨rfl, hb'⟩)
          go_roundg (rs.length - (k + 1))
          case measure => omega
          case rel => exact ⟨k + 1, by omega, by omega, by go_num, (by show _ = _; rw [HT, HS.out, HQ.out, if_neg (by simp), if_neg (by have := HF.out; omega)]), HB2.out.trans (hb'.mono HB2.out.size)⟩
    · have he : k = rs.length := by omega
      have hn : ¬ (k : Int) < (rs.length : Int) := by omega
      have hz : rulesCheck rs = 0 := by rw [HT, he, List.drop_length]; rfl
      have HZ := Lib.hid hz
      clear hz he HT
      go_wp2
      go_ret
      exact ⟨ret_int HZ.out.symm, HB.out⟩
end Go.Proofs.YtnbfenapnfbmeaaGreat
