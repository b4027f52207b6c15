/- The law RulesLimits: the walk. -/
import Derived.Test.YtnbfenapnfbmeaaGreatH1
import Derived.Test.YtnbfenapnfbmeaaGreatCA
import Derived.Laws.Runes
set_option linter.unusedSimpArgs false
set_option linter.unusedVariables false
namespace Go.Proofs.YtnbfenapnfbmeaaGreat
open Go.RowKit
theorem ruleEq_of_p (x y : Rule) (h : x.p = y.p) : ruleEq x y = true := by
  obtain ⟨a1, a2, a3, a4, a5, a6, a7, a8, a9, a10⟩ := x
  obtain ⟨b1, b2, b3, b4, b5, b6, b7, b8, b9, b10⟩ := y
  simp only [Rule.p, PRule.mk.injEq] at h
  obtain ⟨rfl, rfl, rfl, rfl, rfl, rfl, rfl, rfl⟩ := h
  have ht : ∀ l : List Test, testsEq l l = true := by
    intro l
    induction l with
    | nil => rfl
    | cons t l ih => rw [testsEq, ih]; simp [testEq]
  simp [ruleEq, ht]
theorem sameR_of_p (rs ss : List Rule) (h : rs.map Rule.p = ss.map Rule.p) : sameR rs ss = true := by
  induction rs generalizing ss with
  | nil =>
    cases ss with
    | nil => rfl
    | cons y l => cases h
  | cons x l ih =>
    cases ss with
    | nil => cases h
    | cons y m =>
      simp only [List.map_cons, List.cons.injEq] at h
      rw [sameR, ruleEq_of_p x y h.1, ih m h.2]
      rfl
abbrev keyR (ks : ByteArray) : Rule := ⟨4, 1, 0, none, 0, [], 0, ⟨#[]⟩, 0, ks⟩
/-- What the law looks at in a later world. -/
structure LimAt (w : World) (p : Nat) (r : Rule) (a : Option Addr) (rs : List Rule) (W : World) : Prop where
  below : Below w.heap.size w W
  box : W.heap[p]? = some (ruleBox r)
  rule : RuleAt W r
  list : RulesAt W a rs
theorem LimAt.step {w W W' : World} {p : Nat} {r : Rule} {a : Option Addr} {rs : List Rule} (h : LimAt w p r a rs W) (hb : Below W.heap.size W W') : LimAt w p r a rs W' :=
  ⟨h.below.trans (hb.mono h.below.size), (hb.block _ (lt_of_some h.box)).trans h.box, h.rule.below hb (Nat.le_refl _), h.list.below hb (Nat.le_refl _)⟩
theorem key_small : ∀ k : Fin 27, (Utf8.encode (97 + ((k.val : Nat) : Int))).size ≤ 4 := by decide +kernel
theorem key_le (k : Nat) (hk : k ≤ 26) : (Utf8.encode (97 + (k : Int))).size ≤ 4 := key_small ⟨k, by omega⟩
theorem keyR_at (w : World) (ks : ByteArray) (hk : ks.size ≤ 4) : RuleAt w (keyR ks) := by
  refine ⟨⟨Nat.zero_le _, fun j hj => absurd hj (Nat.not_lt_zero _)⟩, fun _ => rfl, Nat.le_refl _, ⟨Nat.zero_le _, by simp [ByteArray.toList_eq]⟩, ?_⟩
  show ks.size ≤ 4611686018427387904
  omega
abbrev smallR (l a : Int) (ks : ByteArray) : Rule := ⟨l, a, 0, none, 0, [], 0, ⟨#[]⟩, 0, ks⟩
theorem smallR_at (w : World) (l a : Int) (ks : ByteArray) (hk : ks.size ≤ 4) : RuleAt w (smallR l a ks) := by
  refine ⟨⟨Nat.zero_le _, fun j hj => absurd hj (Nat.not_lt_zero _)⟩, fun _ => rfl, Nat.le_refl _, ⟨Nat.zero_le _, by simp [ByteArray.toList_eq]⟩, ?_⟩
  show ks.size ≤ 4611686018427387904
  omega
theorem lim_new {w wr : World} {a : Option Addr} {rs : List Rule} (hb : Below w.heap.size w wr) (hl : RulesAt wr a rs) (o : Obj) (r : Rule) (hr : ∀ W, RuleAt W r) : LimAt w (wr.heap.size + 1) r a rs ((wr.alloc o).alloc (ruleBox r)) := by
  have h := heap_new (wr.alloc o) (ruleBox r)
  rw [World.size_alloc] at h
  have hb2 := ((Below.refl wr.heap.size wr).alloc (Nat.le_refl _) o).alloc (by simp) (ruleBox r)
  exact ⟨hb.trans (hb2.mono hb.size), h, hr _, hl.below hb2 (Nat.le_refl _)⟩
set_option maxRecDepth 100000 in
set_option maxHeartbeats 4000000 in
theorem c_rulesLimits (n kind : Int) (hn0 : 0 ≤ n) (hn1 : n ≤ 255) (hk0 : 0 ≤ kind) (hk1 : kind ≤ 255) (w : World) : Calls Tryz.prog 5 #[.int .u8 n, .int .u8 kind] w (HoldsPost w true) := by
  obtain ⟨i0, hi, hz0, hz1, hz2⟩ := info_parts info_rule
  have HI := Lib.hid hi
  clear hi
  go_enter Tryz.func5, Tryz.ntmps5
  go_wp2
  go_loopg [5, 6] 30 (fun gg v i wr => ∃ (k : Nat) (rs : List Rule), k + gg = 30 ∧ k ≤ 26 ∧ rs.length = k ∧ i = .int .i64 k ∧ Aside (RulesOwn wr w.heap.size v rs) ∧ Aside (Below w.heap.size w wr))
  case atStart => exact ⟨0, [], rfl, by omega, rfl, rfl, RulesOwn.nil _ _, Below.refl _ _⟩
  case round =>
    obtain ⟨k, rs, hg, hk, rfl, rfl, HO, HB⟩ := hrel
    by_cases hlt : (rs.length : Int) < 22 + n % 5
    · have hk2 : rs.length ≤ 26 := by omega
      have hks := key_le rs.length hk2
      go_wp2_with (at_builtin; generalize Utf8.encode (97 + (rs.length : Int)) = ks at hks ⊢; refine wpList_append_lies (w := wr.alloc (ruleBox (keyR ks))) rfl _ _ 25 rfl w.heap.size tRule i0 _ 8 96 Tryz.underlying25 HI.out hz0 hz1 hz2 rfl (by decide) u5 rs.length (rs.flatMap Rule.cells) rfl (HO.2.1.alloc _) ⟨wr.heap.size, 0, none⟩ 1 1 (keyR ks).cells rfl rfl (news_new _ _ _) (one_rule (keyR ks)) (by decide) (by unfold maxLen; omega) (by omega) (by simp; exact Nat.le_succ_of_le HB.size) _ rfl ?_; intro g cap w2 hown2 hg2 hgb hlt2; have HO2 := Lib.hid hown2; have HG2 := Lib.hid hg2; clear hown2 hg2)
      have hO1 := HO.2.1.alloc (ruleBox (keyR ks))
      have hB1 : Below w.heap.size w (wr.alloc (ruleBox (keyR ks))) := HB.alloc HB.size _
      go_roundg (gk - 1)
      case measure => omega
      case rel =>
        refine ⟨rs.length + 1, rs ++ [keyR ks], by omega, by omega, by simp, by go_num, ?_, ?_⟩
        · exact RulesOwn.snoc (w1 := wr.alloc (ruleBox (keyR ks))) HO (keyR_at _ ks hks) ((Below.refl _ _).alloc (Nat.le_refl _) _) (by omega) HO2.out (Keeps.own hO1 HG2.out)
        · exact below_own hO1 HG2.out hB1 (by simp; exact Nat.le_succ_of_le HB.size)
    · obtain ⟨av, cv, rfl, hnil, hat⟩ := HO.shape
      have hcap := OwnRow.cap_le HO.2.1
      clear hg
      have HNIL := Lib.hid hnil
      have HCAP := Lib.hid hcap
      have HAT := Lib.hid hat
      clear hnil hcap hat HO
      have hmod : kind % 3 = 0 ∨ kind % 3 = 1 ∨ kind % 3 = 2 := by omega
      go_upto_region 6 with fail
      go_cut [7, 32, 33, 34, 35, 36, 37, 38, 39] (fun s7 s32 s33 s34 s35 s36 s37 s38 s39 wc => ∃ (p : Nat) (r : Rule), s7 = .pointer (some ⟨p, 0, none⟩) ∧ Aside (LimAt w p r av rs wc))
      case first =>
        rcases hmod with hm | hm | hm
        · go_wp2_with fail
          go_meet
          exact ⟨_, smallR 1 2 ⟨#[]⟩, rfl, lim_new HB HAT.out _ _ (fun W => smallR_at W 1 2 _ (by decide))⟩
        · go_wp2_with fail
          go_meet
          exact ⟨_, smallR 0 0 ⟨#[]⟩, rfl, lim_new HB HAT.out _ _ (fun W => smallR_at W 0 0 _ (by decide))⟩
        · go_wp2_with fail
          go_meet
          exact ⟨_, smallR 4 1 ⟨#[97]⟩, rfl, lim_new HB HAT.out _ _ (fun W => smallR_at W 4 1 _ (by decide))⟩
      case rest =>
        obtain ⟨p, r, rfl, hL⟩ := hcut
        have HA := Lib.hid hL
        have k := cell_of_block (LimAt.box hL)
        clear hL hlt hmod hk0 hk1 hn0 hn1 HB hk
        have k0 := k 0
        have k1 := k 1
        have k2 := k 2
        have k3 := k 3
        have k4 := k 4
        have k5 := k 5
        have k6 := k 6
        have k7 := k 7
        simp at k0 k1 k2 k3 k4 k5 k6 k7
        clear k
        go_upto_region 8 with (go_at_call 18; refine (c_padd av cv rs r _ _ HA.out.list HCAP.out HNIL.out HA.out.rule).mono ?_; rintro e w1 ⟨v1, rs1, rfl, ho1, hp1, hb1⟩; obtain ⟨a1, c1, rfl, _, hat1⟩ := ho1.shape; have HA' := Lib.hid (HA.out.step hb1); have HAT1 := Lib.hid hat1; have HP1 := Lib.hid hp1; clear HA k0 k1 k2 k3 k4 k5 k6 k7 ho1 hp1 hb1 hat1; have HA := HA'; clear HA')
        have k := cell_of_block (LimAt.box HA.out)
        have k0 := k 0
        have k1 := k 1
        have k2 := k 2
        have k3 := k 3
        have k4 := k 4
        have k5 := k 5
        have k6 := k 6
        have k7 := k 7
        simp at k0 k1 k2 k3 k4 k5 k6 k7
        clear k
        go_upto_region 9 with (go_at_call 19; refine (c_radd av cv rs r _ _ HA.out.list HCAP.out HNIL.out HA.out.rule).mono ?_; rintro e w2 ⟨v2, rs2, rfl, ho2, hp2, hb2⟩; obtain ⟨a2, c2, rfl, _, hat2⟩ := ho2.shape; have HA' := Lib.hid (HA.out.step hb2); have HC1 := Lib.hid (RulesAt.below HAT1.out hb2 (Nat.le_refl _)); have HAT2 := Lib.hid hat2; have HP2 := Lib.hid hp2; clear HA HAT1 k0 k1 k2 k3 k4 k5 k6 k7 ho2 hp2 hb2 hat2; have HA := HA'; clear HA'; have HAT1 := HC1; clear HC1)
        have k := cell_of_block (LimAt.box HA.out)
        have k0 := k 0
        have k1 := k 1
        have k2 := k 2
        have k3 := k 3
        have k4 := k 4
        have k5 := k 5
        have k6 := k 6
        have k7 := k 7
        simp at k0 k1 k2 k3 k4 k5 k6 k7
        clear k
        go_upto_region 10 with (go_at_call 20; refine (c_premove av cv rs r _ HA.out.list HCAP.out HA.out.rule).mono ?_; rintro e w3 ⟨v3, rs3, rfl, ho3, hp3, hb3⟩; obtain ⟨a3, c3, rfl, _, hat3⟩ := ho3.shape; have HA' := Lib.hid (HA.out.step hb3); have HC1 := Lib.hid (RulesAt.below HAT1.out hb3 (Nat.le_refl _)); have HC2 := Lib.hid (RulesAt.below HAT2.out hb3 (Nat.le_refl _)); have HAT3 := Lib.hid hat3; have HP3 := Lib.hid hp3; clear HA HAT1 HAT2 k0 k1 k2 k3 k4 k5 k6 k7 ho3 hp3 hb3 hat3; have HA := HA'; clear HA'; have HAT1 := HC1; clear HC1; have HAT2 := HC2; clear HC2)
        have k := cell_of_block (LimAt.box HA.out)
        have k0 := k 0
        have k1 := k 1
        have k2 := k 2
        have k3 := k 3
        have k4 := k 4
        have k5 := k 5
        have k6 := k 6
        have k7 := k 7
        simp at k0 k1 k2 k3 k4 k5 k6 k7
        clear k
        go_upto_region 11 with (go_at_call 21; refine (c_rremove av cv rs r _ HA.out.list HCAP.out HNIL.out HA.out.rule).mono ?_; rintro e w4 ⟨v4, rs4, rfl, ho4, hp4, hb4⟩; obtain ⟨a4, c4, rfl, _, hat4⟩ := ho4.shape; have HA' := Lib.hid (HA.out.step hb4); have HC1 := Lib.hid (RulesAt.below HAT1.out hb4 (Nat.le_refl _)); have HC2 := Lib.hid (RulesAt.below HAT2.out hb4 (Nat.le_refl _)); have HC3 := Lib.hid (RulesAt.below HAT3.out hb4 (Nat.le_refl _)); have HAT4 := Lib.hid hat4; have HP4 := Lib.hid hp4; clear HA HAT1 HAT2 HAT3 k0 k1 k2 k3 k4 k5 k6 k7 ho4 hp4 hb4 hat4; have HA := HA'; clear HA'; have HAT1 := HC1; clear HC1; have HAT2 := HC2; clear HC2; have HAT3 := HC3; clear HC3)
        have hab : sameR rs1 rs2 = true := sameR_of_p _ _ (HP1.out.trans HP2.out.symm)
        have hcd : sameR rs3 rs4 = true := sameR_of_p _ _ (HP3.out.trans HP4.out.symm)
        have hs1 := c_same a1 a2 c1 c2 rs1 rs2 w4 HAT1.out HAT2.out
        have hs2 := fun W (hW : Below w4.heap.size w4 W) => c_same a3 a4 c3 c4 rs3 rs4 W (RulesAt.below HAT3.out hW (Nat.le_refl _)) (RulesAt.below HAT4.out hW (Nat.le_refl _))
        have hc1 := fun W (hW : Below w4.heap.size w4 W) => c_check av cv rs W (RulesAt.below HA.out.list hW (Nat.le_refl _)) HCAP.out
        have hc2 := fun W (hW : Below w4.heap.size w4 W) => c_rcheck av cv rs W (RulesAt.below HA.out.list hW (Nat.le_refl _)) HCAP.out
        rw [hab] at hs1
        simp only [hcd] at hs2
        have HS1 := Lib.hid hs1
        have HS2 := Lib.hid hs2
        have HK1 := Lib.hid hc1
        have HK2 := Lib.hid hc2
        clear hab hcd hs1 hs2 hc1 hc2
        go_wp2_with (first
          | (go_at_call_of 22 (Value.slice a1 rs1.length c1); refine HS1.out.mono ?_; rintro e w5 ⟨rfl, hb⟩; have HB5 := Lib.hid hb; clear hb)
          | (go_at_call_of 22 (Value.slice a3 rs3.length c3); refine (HS2.out _ HB5.out).mono ?_; rintro e w6 ⟨rfl, hb⟩; have HB6 := Lib.hid (HB5.out.trans (hb.mono HB5.out.size)); clear hb)
          | (go_at_call 25; refine (HK1.out _ HB6.out).mono ?_; rintro e w7 ⟨rfl, hb⟩; have HB7 := Lib.hid (HB6.out.trans (hb.mono HB6.out.size)); clear hb)
          | (go_at_call 26; refine (HK2.out _ HB7.out).mono ?_; rintro e w8 ⟨rfl, hb⟩; have HB8 := Lib.hid (HB7.out.trans (hb.mono HB7.out.size)); clear hb)
          | (go_at_call 16; refine (c_awake _).mono ?_; rintro e w9 ⟨rfl, hb⟩; have HB9 := Lib.hid (HB8.out.trans (hb.mono HB8.out.size)); clear hb))
        go_ret
        exact ⟨rfl, HA.out.below.trans (HB9.out.mono HA.out.below.size)⟩
end Go.Proofs.YtnbfenapnfbmeaaGreat
