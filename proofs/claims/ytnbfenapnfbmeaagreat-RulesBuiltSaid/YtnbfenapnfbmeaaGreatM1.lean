/- The law RulesBack: the walk. -/
import Derived.Test.YtnbfenapnfbmeaaGreatK5
set_option linter.unusedSimpArgs false
set_option linter.unusedVariables false
namespace Go.Proofs.YtnbfenapnfbmeaaGreat
open Go.RowKit
theorem Below.moved {B p : Nat} {w W V : World} (h : Below B w W) (hm : Moved p W V) (hp : B ≤ p) (hB : B ≤ W.heap.size) : Below B w V :=
  ⟨hm.os.trans h.os, hm.tape.trans h.tape, hm.output.trans h.output, Nat.le_trans h.size hm.size, fun i hi => (hm.block i (Nat.lt_of_lt_of_le hi hB) (fun e => by cases e; omega)).trans (h.block i hi)⟩
theorem c_new (la : Option Addr) (xs : List Int) (lc : Nat) (w : World) (hr : SrcRow w w.heap.size la xs) :
    Calls Tryz.prog 7 #[.slice la xs.length lc] w fun e w' => e = .returned (.pointer (some ⟨w.heap.size, 0, none⟩)) ∧ Src w' w.heap.size la xs lc 0 ∧ Below w.heap.size w w' := by
  go_enter Tryz.func7, Tryz.ntmps7
  go_wp2
  go_ret
  have hb : Below w.heap.size w (w.alloc (.cells #[.slice la xs.length lc, .int .i64 0] tSrc)) := (Below.refl _ w).alloc (Nat.le_refl _) _
  exact ⟨rfl, ⟨heap_new _ _, hr.keep (fun b h => hb.block b h), Nat.zero_le _⟩, hb⟩
theorem LimAt.ofBox {w W : World} {r : Rule} {a : Option Addr} {rs : List Rule} (hb : Below w.heap.size w W) (hr : RuleAt W r) (hl : RulesAt W a rs) : LimAt w W.heap.size r a rs (W.alloc (ruleBox r)) :=
  ⟨hb.alloc hb.size _, heap_new _ _, hr.below ((Below.refl _ W).alloc (Nat.le_refl _) _) (Nat.le_refl _), hl.below ((Below.refl _ W).alloc (Nat.le_refl _) _) (Nat.le_refl _)⟩
theorem LimAt.cells {w W : World} {p : Nat} {r : Rule} {a : Option Addr} {rs : List Rule} (h : LimAt w p r a rs W) : CellsR W p 0 r := by
  have k := cell_of_block h.box
  exact ⟨k 0, k 1, k 2, k 3, k 4, k 5, k 6, k 7⟩
set_option maxRecDepth 100000 in
set_option maxHeartbeats 4000000 in
theorem c_rulesBack (la : Option Addr) (xs : List Int) (lc : Nat) (w : World) (hr : SrcRow w w.heap.size la xs) :
    Calls Tryz.prog 6 #[.slice la xs.length lc] w (HoldsPost w true) := by
  go_enter Tryz.func6, Tryz.ntmps6
  go_upto_region 2 with (first | (go_at_call 7; refine (c_new la xs lc w hr).mono ?_; rintro e w1 ⟨rfl, hs, hb⟩; have HS := Lib.hid hs; have HB := Lib.hid hb; clear hs hb))
  clear hr
  go_cut [4, 5, 6] (fun s4 s5 s6 wc => ∃ (a : Option Addr) (c : Nat) (rs : List Rule) (r : Rule) (b : Nat) (front : Bool), s4 = .slice a rs.length c ∧ s5 = .pointer (some ⟨b, 0, none⟩) ∧ s6 = .bool front ∧ rs.length ≤ 8 ∧ Aside (rs.length ≤ c ∧ (a = none → c = 0)) ∧ Aside (rulesCheck rs = 0 ∧ ruleCheck r = 0) ∧ Aside (LimAt w b r a rs wc))
  case first =>
    go_wp2_with (first
      | (go_at_call 8; refine (c_rules w.heap.size la xs lc 0 8 _ HS.out (by decide) (by decide)).mono ?_; rintro e w2 ⟨v, rs, n2, rfl, ho, hlen, hchk, hmill⟩; obtain ⟨a, c, rfl, hnil, hat⟩ := ho.shape; have HCAP := Lib.hid ho.2.1.cap_le; have HNIL := Lib.hid hnil; have HCHK := Lib.hid hchk; have HO := Lib.hid ho; have HM := Lib.hid hmill; have hle := hmill.le; clear hnil hat hchk ho hmill)
      | (go_at_call 27; refine (c_good w.heap.size la xs lc _ _ HM.out.src (by omega)).mono ?_; rintro e w3 ⟨r, n3, rfl, hr, hrc, hs3, hn3, hm3⟩; have HR := Lib.hid hr; have HRC := Lib.hid hrc; have HM3 := Lib.hid (HM.out.step hs3 hn3 hm3); have hle3 := HM3.out.le; have HO3 := Lib.hid (HO.out.moved (lt_of_some HS.out.blk) hm3 (HM.out.src.keeps hm3 (by decide))); clear hr hrc hs3 hn3 hm3)
      | (go_at_call 11; refine (c_n w.heap.size la xs lc _ _ _ HM3.out.src (by omega) (by omega) (by omega)).mono ?_; rintro e w4 ⟨y, n4, rfl, ⟨hy1, hy2⟩, hs4, hn4, hm4⟩; have HM4 := Lib.hid (HM3.out.step hs4 hn4 hm4); have HR4 := Lib.hid (HR.out.keep (HM3.out.src.keeps hm4 (by decide))); have HO4 := Lib.hid (HO3.out.moved (lt_of_some HS.out.blk) hm4 (HM3.out.src.keeps hm4 (by decide))); clear hs4 hn4 hm4))
    go_meet
    refine ⟨a, c, rs, r, _, _, rfl, rfl, rfl, hlen, ⟨HCAP.out, HNIL.out⟩, ⟨HCHK.out, HRC.out⟩, ?_⟩
    obtain ⟨a', c', he, _, hat⟩ := HO4.out.shape
    cases he
    exact LimAt.ofBox (Below.moved HB.out HM4.out.moved (Nat.le_refl _) HB.out.size) HR4.out hat
  case rest =>
    obtain ⟨a, c, rs, r, b, front, rfl, rfl, rfl, hlen, HCN, HCK, hL⟩ := hcut
    have HC := Lib.hid HCN
    have HK := Lib.hid HCK
    have HL := Lib.hid hL
    clear HS HB HCN HCK hL
    obtain ⟨k0, k1, k2, k3, k4, k5, k6, k7⟩ := HL.out.cells
    have hadd := c_padd a c rs r front wc HL.out.list HC.out.1 HC.out.2 HL.out.rule
    by_cases hcode : addCode rs r = 0
    · have HCODE := Lib.hid hcode
      rw [hcode] at hadd
      clear hcode
      go_upto_region 4 with (first | (go_at_call 18; refine hadd.mono ?_; rintro e w1 ⟨v1, rs1, rfl, ho1, hp1, hb1⟩; obtain ⟨a1, c1, rfl, _, hat1⟩ := ho1.shape; have HL' := Lib.hid (HL.out.step hb1); have HAT1 := Lib.hid hat1; have HP1 := Lib.hid hp1; have HCAP1 := Lib.hid ho1.2.1.cap_le; clear HL k0 k1 k2 k3 k4 k5 k6 k7 ho1 hp1 hb1 hat1; have HL := HL'; clear HL'))
      clear hadd
      have HREM := Lib.hid (remove_add front HCODE.out HP1.out)
      have HFIND := Lib.hid ((find_p (HP1.out.trans (addList_yes HCODE.out)) rfl).trans (find_add front HCODE.out) : findRule rs1 r = if front then 0 else (rs.length : Int))
      have HCHK1 := Lib.hid ((check_p (HP1.out.trans (addList_yes HCODE.out))).2 (check_add front HCODE.out) : rulesCheck rs1 = 0)
      obtain ⟨k0, k1, k2, k3, k4, k5, k6, k7⟩ := HL.out.cells
      have hrem := c_premove a1 c1 rs1 r w1 HAT1.out HCAP1.out HL.out.rule
      rw [HREM.out.1, HREM.out.2] at hrem
      have hfind := fun W (hW : Below w1.heap.size w1 W) => c_pfind a1 c1 rs1 r W (HAT1.out.below hW (Nat.le_refl _)) (HL.out.rule.below hW (Nat.le_refl _))
      have hchk := fun W (hW : Below w1.heap.size w1 W) => c_check a1 c1 rs1 W (HAT1.out.below hW (Nat.le_refl _)) HCAP1.out
      simp only [HFIND.out] at hfind
      simp only [HCHK1.out] at hchk
      have HF := Lib.hid hfind
      have HCK := Lib.hid hchk
      clear hfind hchk
      cases front
      all_goals
        simp only [Bool.false_eq_true, if_false, if_true] at HF
        go_upto_region 10 with (first | (go_at_call 20; refine hrem.mono ?_; rintro e w2 ⟨v2, rs2, rfl, ho2, hp2, hb2⟩; obtain ⟨a2, c2, rfl, _, hat2⟩ := ho2.shape; have HL' := Lib.hid (HL.out.step hb2); have HAT2 := Lib.hid hat2; have HP2 := Lib.hid hp2; have HB2 := Lib.hid hb2; clear HL k0 k1 k2 k3 k4 k5 k6 k7 ho2 hp2 hb2 hat2; have HL := HL'; clear HL'))
        clear hrem
        obtain ⟨k0, k1, k2, k3, k4, k5, k6, k7⟩ := HL.out.cells
        have hs := c_same a2 a c2 c rs2 rs w2 HAT2.out HL.out.list
        rw [sameR_of_p rs2 rs HP2.out] at hs
        go_wp2_with (first
          | (go_at_call 22; refine hs.mono ?_; rintro e w5 ⟨rfl, hb⟩; have HB5 := Lib.hid (HB2.out.trans (hb.mono HB2.out.size)); have HL' := Lib.hid (HL.out.step hb); clear HL k0 k1 k2 k3 k4 k5 k6 k7 hb; have HL := HL'; clear HL'; obtain ⟨k0, k1, k2, k3, k4, k5, k6, k7⟩ := HL.out.cells)
          | (go_at_call 23; refine (HF.out _ HB5.out).mono ?_; rintro e w6 ⟨rfl, hb⟩; have HB6 := Lib.hid (HB5.out.trans (hb.mono HB5.out.size)); have HL6 := Lib.hid (HL.out.step hb); clear hb)
          | (go_at_call 25; refine (HCK.out _ HB6.out).mono ?_; rintro e w7 ⟨rfl, hb⟩; have HL7 := Lib.hid (HL6.out.step hb); clear hb)
          | (go_at_call 16; refine (c_awake _).mono ?_; rintro e w9 ⟨rfl, hb⟩; have HL9 := Lib.hid (HL7.out.step hb); clear hb))
        go_ret
        exact ⟨rfl, HL9.out.below⟩
    · have h141 := code_other HK.out.1 HK.out.2 (by omega) hcode
      rw [h141] at hadd
      clear hcode h141
      go_upto_region 4 with (first | (go_at_call 18; refine hadd.mono ?_; rintro e w1 ⟨v1, rs1, rfl, ho1, hp1, hb1⟩; have HL' := Lib.hid (HL.out.step hb1); clear HL k0 k1 k2 k3 k4 k5 k6 k7 ho1 hp1 hb1; have HL := HL'; clear HL'))
      go_wp2_with (first
          | (go_at_call 16; refine (c_awake _).mono ?_; rintro e w9 ⟨rfl, hb⟩; have HL9 := Lib.hid (HL.out.step hb); clear hb))
      go_ret
      exact ⟨rfl, HL9.out.below⟩
end Go.Proofs.YtnbfenapnfbmeaaGreat
