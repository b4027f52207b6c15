/- Contracts: lists of rules are the same (the reference). -/
import Derived.Test.YtnbfenapnfbmeaaGreatC9
set_option linter.unusedSimpArgs false
set_option linter.unusedVariables false
namespace Go.Proofs.YtnbfenapnfbmeaaGreat
open Go.RowKit
def sameR : List Rule → List Rule → Bool
  | [], [] => true
  | a :: l, b :: m => ruleEq a b && sameR l m
  | _, _ => false
theorem sameR_drop (k : Nat) (a b : List Rule) (ha : k < a.length) (hb : k < b.length) : sameR (a.drop k) (b.drop k) = (ruleEq a[k] b[k] && sameR (a.drop (k + 1)) (b.drop (k + 1))) := by
  rw [List.drop_eq_getElem_cons ha, List.drop_eq_getElem_cons hb, sameR]
theorem sameR_len (a b : List Rule) (h : a.length ≠ b.length) : sameR a b = false := by
  induction a generalizing b with
  | nil => cases b with
    | nil => simp at h
    | cons => rfl
  | cons x l ih => cases b with
    | nil => rfl
    | cons y m => simp [sameR, ih m (by simpa using h)]
set_option maxRecDepth 100000 in
set_option maxHeartbeats 2000000 in
theorem c_same (a1 a2 : Option Addr) (n1 n2 : Nat) (rs ss : List Rule) (w : World) (hr : RulesAt w a1 rs) (hs : RulesAt w a2 ss) :
    Calls Tryz.prog 22 #[.slice a1 rs.length n1, .slice a2 ss.length n2] w fun e w' => e = .returned (.bool (sameR rs ss)) ∧ Below w.heap.size w w' := by
  have hl1 := hr.1
  have hl2 := hs.1
  have HR := Lib.hid hr
  have HS := Lib.hid hs
  clear hr hs
  go_enter Tryz.func22, Tryz.ntmps22
  by_cases hne : rs.length = ss.length
  case neg =>
    have hq : ((rs.length : Int) != (ss.length : Int)) = true := by simp; omega
    have HZ := Lib.hid (sameR_len rs ss hne)
    go_wp2
    go_ret
    exact ⟨ret_bool HZ.out.symm, Below.refl _ _⟩
  have hq : ((rs.length : Int) != (ss.length : Int)) = false := by simp; omega
  have HE := Lib.hid hne
  clear hne
  go_wp2
  clear hq
  go_loopg [5] rs.length (fun gg i wr => ∃ k : Nat, k ≤ rs.length ∧ rs.length - k ≤ gg ∧ i = .int .i64 k ∧ Aside (sameR rs ss = sameR (rs.drop k) (ss.drop k)) ∧ Aside (Below w.heap.size w wr))
  case atStart => exact ⟨0, Nat.zero_le _, by omega, rfl, rfl, Below.refl _ _⟩
  case round =>
    obtain ⟨k, hk, hg, rfl, HT, HB⟩ := hrel
    by_cases hlt : k < rs.length
    · have hlt2 : k < ss.length := by have := HE.out; omega
      obtain ⟨b, o, ha, hb, hat, d0, d1, d2, d3, d4, d5, d6, d7⟩ := HR.out.at HB.out k hlt
      obtain ⟨b', o', ha', hb', hat', e0, e1, e2, e3, e4, e5, e6, e7⟩ := HS.out.at HB.out k hlt2
      have hs := sameR_drop k rs ss hlt hlt2
      generalize rs[k] = x at hat d0 d1 d2 d3 d4 d5 d6 d7 hs
      generalize ss[k] = y at hat' e0 e1 e2 e3 e4 e5 e6 e7 hs
      have HSS := Lib.hid hs
      have HAT := Lib.hid hat
      have HAT2 := Lib.hid hat'
      clear hs hat hat'
      have hi1 : (k : Int) < (rs.length : Int) := by omega
      have hi2 : (k : Int) < (ss.length : Int) := by omega
      subst ha ha'
      go_wp2
      go_still_tail 8, (by kernel_rfl)
      change wpList _ _ _ _ _ wr.drew
      have HB2 : Hid (Below w.heap.size w wr.drew) := Lib.hid (pw_drew HB.out)
      have hcall := c_requal x y wr.drew (HAT.out.below HB2.out (Nat.le_refl _)) (HAT2.out.below HB2.out (Nat.le_refl _))
      clear HB d0 d1 d2 d3 d4 d5 d6 d7 e0 e1 e2 e3 e4 e5 e6 e7
      generalize wr.drew = w2 at hcall HB2 ⊢
      cases hq : ruleEq x y with
      | false =>
        rw [hq] at hcall HSS
        go_wp2_with (go_at_call 53; refine hcall.mono ?_; rintro e w' ⟨rfl, hb'⟩)
        go_ret
        refine ⟨ret_bool ?_, HB2.out.trans (hb'.mono HB2.out.size)⟩
        rw [HT, HSS.out]
        rfl
      | true =>
        rw [hq] at hcall HSS
        go_wp2_with (go_at_call 53; refine hcall.mono ?_; rintro e w' ⟨rfl, hb'⟩)
        go_roundg (rs.length - (k + 1))
        case measure => omega
        case rel => exact ⟨k + 1, by omega, by omega, by go_num, (by show _ = _; rw [HT, HSS.out]; rfl), HB2.out.trans (hb'.mono HB2.out.size)⟩
    · have he : k = rs.length := by omega
      have hn : ¬ (k : Int) < (rs.length : Int) := by omega
      have hz : sameR rs ss = true := by rw [HT, he, List.drop_length, HE.out, List.drop_length]; rfl
      have HZ := Lib.hid hz
      clear hz he HT
      go_wp2
      go_ret
      exact ⟨ret_bool HZ.out.symm, HB.out⟩
end Go.Proofs.YtnbfenapnfbmeaaGreat
