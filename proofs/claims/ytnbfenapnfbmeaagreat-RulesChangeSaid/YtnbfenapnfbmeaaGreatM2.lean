/- The law RulesChange: the walk. -/
import Derived.Test.YtnbfenapnfbmeaaGreatM1
import Derived.Deep.RegionHeld3
set_option linter.unusedSimpArgs false
set_option linter.unusedVariables false
namespace Go.Proofs.YtnbfenapnfbmeaaGreat
open Go.RowKit
/-- A source, a list and a rule in a box of the call's own, in a later world. -/
structure ChAt (w1 : World) (p : Nat) (la : Option Addr) (xs : List Int) (lc k : Nat) (V : World) (m b : Nat) (r : Rule) (a : Option Addr) (rs : List Rule) : Prop where
  mill : Mill w1 p la xs lc 0 k V m
  box : V.heap[b]? = some (ruleBox r)
  ne : b ≠ p
  ge : w1.heap.size ≤ b
  gp : p < b
  far : ∀ bb off, a = some ⟨bb, off, none⟩ → 0 < rs.length → bb ≠ b
  rule : RuleAt V r
  list : RulesAt V a rs
section
variable {w1 V U : World} {p lc k m b : Nat} {la a : Option Addr} {xs : List Int} {r : Rule} {rs : List Rule}
theorem ChAt.step (h : ChAt w1 p la xs lc k V m b r a rs) (hb : Below V.heap.size V U) : ChAt w1 p la xs lc k U m b r a rs :=
  ⟨Mill.step h.mill (h.mill.src.below hb (Nat.le_refl _)) (Nat.le_add_right _ 0) (Moved.of_below hb (Nat.le_refl _)), (hb.block b (lt_of_some h.box)).trans h.box, h.ne, h.ge, h.gp, h.far, h.rule.below hb (Nat.le_refl _), h.list.below hb (Nat.le_refl _)⟩
theorem ChAt.draw {j m' : Nat} (h : ChAt w1 p la xs lc k V m b r a rs) (hs : Src U p la xs lc m') (hm : m' ≤ m + j) (hv : Moved p V U) : ChAt w1 p la xs lc (k + j) U m' b r a rs :=
  ⟨h.mill.step hs hm hv, hv.box h.box h.ne, h.ne, h.ge, h.gp, h.far, h.rule.keep (h.mill.src.keeps hv (by decide)), h.list.keep (h.mill.src.keeps hv (by decide)) (h.mill.src.keeps hv (by decide))⟩
theorem ChAt.up {j : Nat} (h : ChAt w1 p la xs lc k V m b r a rs) (hj : k ≤ j) : ChAt w1 p la xs lc j V m b r a rs := ⟨h.mill.up hj, h.box, h.ne, h.ge, h.gp, h.far, h.rule, h.list⟩
theorem ChAt.cells (h : ChAt w1 p la xs lc k V m b r a rs) : CellsR V b 0 r := by
  have k := cell_of_block h.box
  exact ⟨k 0, k 1, k 2, k 3, k 4, k 5, k 6, k 7⟩
theorem ChAt.new (hm : Mill w1 p la xs lc 0 k V m) (hr : RuleAt V r) (hl : RulesAt V a rs) : ChAt w1 p la xs lc k (V.alloc (ruleBox r)) m V.heap.size r a rs := by
  have hb := (Below.refl V.heap.size V).alloc (Nat.le_refl _) (ruleBox r)
  refine ⟨hm.alloc _, heap_new _ _, Nat.ne_of_gt (lt_of_some hm.src.blk), hm.moved.size, lt_of_some hm.src.blk, fun bb off ha h0 => ?_, hr.below hb (Nat.le_refl _), hl.below hb (Nat.le_refl _)⟩
  obtain ⟨b', off', _, _, ha', hb', _⟩ := hl.2.1 0 h0
  rw [ha] at ha'
  cases ha'
  exact Nat.ne_of_lt (lt_of_some hb')
theorem ChAt.put (h : ChAt w1 p la xs lc k V m b r a rs) (j : Nat) (hj : j < rs.length) : ChAt w1 p la xs lc k (V.setRow b (rvs rs[j])) m b rs[j] a rs := by
  have hg := grown_setRow V b (rvs rs[j])
  have hk : Keeps tTest V (V.setRow b (rvs rs[j])) := Keeps.grown hg h.box (by decide)
  have hw := lt_of_some h.mill.src.blk
  have hge := h.ge
  have hgp := h.gp
  refine ⟨⟨⟨?_, h.mill.src.row.keep (fun b' hb' => hg.block b' (Nat.lt_trans hb' hw) (fun e => by cases e; omega)), h.mill.src.le⟩, h.mill.le, ⟨h.mill.moved.os, h.mill.moved.tape, h.mill.moved.output, Nat.le_trans h.mill.moved.size hg.size, fun i hi hne => (hg.block i (Nat.lt_of_lt_of_le hi h.mill.moved.size) (fun e => by cases e; omega)).trans (h.mill.moved.block i hi hne)⟩⟩, setRow_heap V b _ _ _ (0, 0) h.box, h.ne, h.ge, h.gp, h.far, (h.list.2.2 _ (List.getElem_mem hj)).keep hk, h.list.1, fun i hi => ?_, fun x hx => (h.list.2.2 x hx).keep hk⟩
  · exact (hg.block p hw (fun e => h.ne (by cases e; rfl))).trans h.mill.src.blk
  · obtain ⟨b', off', cs, fz, ha, hb, hc⟩ := h.list.2.1 i hi
    exact ⟨b', off', cs, fz, ha, (hg.block b' (lt_of_some hb) (fun e => h.far _ _ ha (by omega) (by cases e; rfl))).trans hb, hc⟩
end
theorem add_len {rs ss : List Rule} {r : Rule} {front : Bool} (h : ss.map Rule.p = addList rs r front) (hc : addCode rs r = 0) : ss.length = rs.length + 1 := by
  rw [addList_yes hc] at h
  have := congrArg List.length h
  simp [addTo] at this
  split at this <;> simpa using this
theorem remove_len {rs ss : List Rule} {r : Rule} (h : ss.map Rule.p = removeList rs r) : ss.length ≤ rs.length := by
  have h1 : ss.length = (removeList rs r).length := by rw [← h, List.length_map]
  rw [h1]
  unfold removeList
  split
  · exact Nat.le_trans (List.length_eraseIdx_le _ _) (by rw [List.length_map]; exact Nat.le_refl _)
  · exact Nat.zero_le _
theorem news_at {w : World} {cs : Array Value} {t : TypeId} {b : Nat} (h : w.heap[b]? = some (.cells cs t)) : ∀ (j : Nat) u, cs.toList[j]? = some u → w.cell? ((⟨b, 0, none⟩ : Addr).add j) = some u := by
  intro j u hu
  rw [Addr.add_lit, Nat.zero_add, cell_of_block h]
  simpa using hu
theorem ch_fin {w1 w9 w5 : World} {p lc k m b g cap : Nat} {la a : Option Addr} {xs : List Int} {r : Rule} {rs : List Rule} (h : ChAt w1 p la xs lc k w9 m b r a rs) (hl : rs.length ≤ 1000)
    (hown : w5.ownsRow w9.heap.size tRule 8 (.slice (some ⟨g, 0, none⟩) (rs.length + 1) cap) (rs.length + 1) (rs.flatMap Rule.cells ++ r.cells)) (hb : Below w9.heap.size w9 w5) :
    (rs.length + 1 ≤ cap ∧ (some (⟨g, 0, none⟩ : Addr) = none → cap = 0)) ∧ RulesAt w5 (some ⟨g, 0, none⟩) (rs ++ [r]) ∧ Mill w1 p la xs lc 0 k w5 m := by
  have ho : OwnRow w5 w9.heap.size tRule 8 Rule.cells (.slice (some ⟨g, 0, none⟩) (rs.length + 1) cap) (rs ++ [r]) := by
    unfold OwnRow
    rw [List.flatMap_append, List.length_append]
    simpa using hown
  obtain ⟨a', c', he, _, hrow⟩ := ho.shape (fun _ => rfl)
  injection he with h1 h2 h3
  subst h1
  have hc := ho.cap_le
  rw [List.length_append] at hc
  refine ⟨⟨hc, fun h => by cases h⟩, ⟨by rw [List.length_append]; show rs.length + 1 ≤ _; omega, hrow, fun x hx => ?_⟩, (h.step hb).mill⟩
  rcases List.mem_append.1 hx with hx | hx
  · exact (h.list.2.2 x hx).below hb (Nat.le_refl _)
  · rw [List.mem_singleton.1 hx]; exact h.rule.below hb (Nat.le_refl _)
theorem below_none {w0 w w' : World} {B : Nat} (hb : Below B w0 w) (hg : w.grownBy w' none) (hB : B ≤ w.heap.size) : Below B w0 w' := hb.grown hg hB (fun k hk => by cases hk)
set_option maxRecDepth 100000 in
set_option maxHeartbeats 4000000 in
theorem c_rulesChange (la : Option Addr) (xs : List Int) (lc : Nat) (w : World) (hr : SrcRow w w.heap.size la xs) :
    Calls Tryz.prog 4 #[.slice la xs.length lc] w (HoldsPost w true) := by
  obtain ⟨i0, hi, hz0, hz1, hz2⟩ := info_parts info_rule
  have HI := Lib.hid hi
  clear hi
  go_enter Tryz.func4, Tryz.ntmps4
  go_upto_region 2 with (first | (go_at_call 7; refine (c_new la xs lc w hr).mono ?_; rintro e w1 ⟨rfl, hs, hb⟩; have HS := Lib.hid hs; have HB := Lib.hid hb; clear hs hb))
  clear hr
  go_wp2
  go_loopg [4, 5] 12 (fun gg s4 s5 wr => ∃ (k : Nat) (a : Option Addr) (c : Nat) (rs : List Rule) (m : Nat), k + gg = 12 ∧ rs.length ≤ k ∧ s4 = .slice a rs.length c ∧ s5 = .int .i64 k ∧ Aside (rs.length ≤ c ∧ (a = none → c = 0)) ∧ Aside (RulesAt wr a rs) ∧ Aside (Mill w1 w.heap.size la xs lc 0 (120 * k) wr m))
  case atStart => exact ⟨0, none, 0, [], 0, rfl, Nat.le_refl _, rfl, rfl, ⟨Nat.le_refl _, fun _ => rfl⟩, ⟨Nat.zero_le _, fun j hj => absurd hj (Nat.not_lt_zero _), fun x hx => absurd hx List.not_mem_nil⟩, Mill.start HS.out⟩
  case round =>
    obtain ⟨k, a, c, rs, m, hg, hlen, rfl, rfl, HC1, HL1, HM1⟩ := hrel
    have HC := Lib.hid HC1
    have HL := Lib.hid HL1
    have HM := Lib.hid HM1
    clear HC1 HL1 HM1
    have hle := HM.out.le
    by_cases hlt : (k : Int) < 12
    · go_upto_region 6 with fail
      go_cut [6, 7] (fun s6 s7 wc => ∃ (b : Nat) (front : Bool) (r : Rule) (m : Nat), s6 = .pointer (some ⟨b, 0, none⟩) ∧ s7 = .bool front ∧ Aside (ChAt w1 w.heap.size la xs lc (120 * k + 101) wc m b r a rs))
      case first =>
        go_wp2_with (first
          | (go_at_call 17; refine (c_rule w.heap.size la xs lc _ _ HM.out.src (by omega)).mono ?_; rintro e w2 ⟨r, n2, rfl, hr2, hs2, hn2, hm2⟩; have HR := Lib.hid hr2; have HM2 := Lib.hid (HM.out.step hs2 hn2 hm2); have hle2 := HM2.out.le; have HL2 := Lib.hid (HL.out.keep (HM.out.src.keeps hm2 (by decide)) (HM.out.src.keeps hm2 (by decide))); clear hr2 hs2 hn2 hm2)
          | (go_at_call 11; refine (c_n w.heap.size la xs lc _ _ _ HM2.out.src (by omega) (by decide) (by decide)).mono ?_; rintro e w3 ⟨y, n3, rfl, ⟨hy1, hy2⟩, hs3, hn3, hm3⟩; have HM3 := Lib.hid (HM2.out.step hs3 hn3 hm3); have HR3 := Lib.hid (HR.out.keep (HM2.out.src.keeps hm3 (by decide))); have HL3 := Lib.hid (HL2.out.keep (HM2.out.src.keeps hm3 (by decide)) (HM2.out.src.keeps hm3 (by decide))); clear hs3 hn3 hm3))
        go_meet
        exact ⟨_, _, r, _, rfl, rfl, ChAt.new HM3.out HR3.out HL3.out⟩
      case rest =>
        obtain ⟨b, front, r, m, rfl, rfl, HA1⟩ := hcut
        clear HM HL
        have HA := Lib.hid HA1
        clear HA1 hle
        have hle := HA.out.mill.le
        go_upto_region 7 with fail
        go_cut [34] (fun s34 wc => ∃ (q : Bool) (m : Nat), s34 = .bool q ∧ (q = true → 0 < rs.length) ∧ Aside (ChAt w1 w.heap.size la xs lc (120 * k + 102) wc m b r a rs))
        case first =>
          by_cases h0 : (0 : Int) < rs.length
          · go_wp2_with (first
              | (go_at_call 11; refine (c_n w.heap.size la xs lc _ _ _ HA.out.mill.src (by omega) (by decide) (by decide)).mono ?_; rintro e w3 ⟨y, n3, rfl, ⟨hy1, hy2⟩, hs3, hn3, hm3⟩; have HA3 := Lib.hid (HA.out.draw hs3 hn3 hm3); clear hs3 hn3 hm3))
            go_meet
            exact ⟨_, _, rfl, (fun _ => by omega), HA3.out⟩
          · go_wp2
            go_meet
            exact ⟨false, _, rfl, (fun h => by cases h), HA.out.up (by omega)⟩
        case rest =>
          obtain ⟨q, m, rfl, hq, HA1⟩ := hcut
          clear HA
          have HA := Lib.hid HA1
          clear HA1 hle
          have hle := HA.out.mill.le
          go_upto_if 34 with fail
          go_cut [] (fun wc => ∃ (r : Rule) (m : Nat), Aside (ChAt w1 w.heap.size la xs lc (120 * k + 103) wc m b r a rs))
          case first =>
            cases q with
            | false =>
              go_wp2
              go_meet
              exact ⟨r, _, HA.out.up (by omega)⟩
            | true =>
              have h0 := hq rfl
              clear hq
              go_wp2_with (first
                | (go_at_call 11; refine (c_n w.heap.size la xs lc _ _ _ HA.out.mill.src (by omega) (by omega) (by omega)).mono ?_; rintro e w3 ⟨y, n3, rfl, ⟨hy1, hy2⟩, hs3, hn3, hm3⟩; have HA3 := Lib.hid (HA.out.draw hs3 hn3 hm3); clear hs3 hn3 hm3; obtain ⟨j, rfl⟩ : ∃ j : Nat, y = j := ⟨y.toNat, by omega⟩; have hj : j < rs.length := (by omega); obtain ⟨bb, off, rfl, hbb, hat, d0, d1, d2, d3, d4, d5, d6, d7⟩ := HA3.out.list.at (Below.refl _ _) j hj; have HP := Lib.hid (HA3.out.put j hj); clear hat; generalize hx : rs[j] = x at d0 d1 d2 d3 d4 d5 d6 d7 HP; clear hx)
                | (refine wpList_store_row (by rfl) 48 _ _ (by rfl) b #[_, _, _, _, _, _, _, _] (by rfl) (by rfl) 48 _ HA3.out.box (by kernel_rfl) (by rfl) (by kernel_rfl) ?_))
              go_meet
              exact ⟨x, _, HP.out⟩
          case rest =>
            obtain ⟨r, m, HA1⟩ := hcut
            clear HA hq
            have HA := Lib.hid HA1
            clear HA1 hle
            have hle := HA.out.mill.le
            obtain ⟨k0, k1, k2, k3, k4, k5, k6, k7⟩ := HA.out.cells
            go_upto_region 10 with (go_at_call 18; refine (c_padd a c rs r _ _ HA.out.list HC.out.1 HC.out.2 HA.out.rule).mono ?_; rintro e w4 ⟨v1, rs1, rfl, ho1, hp1, hb1⟩; obtain ⟨a1, c1, rfl, hn1, hat1⟩ := ho1.shape; have HA' := Lib.hid (HA.out.step hb1); have HAT1 := Lib.hid hat1; have HP1 := Lib.hid hp1; have HC1 := Lib.hid (And.intro ho1.2.1.cap_le hn1); clear HA k0 k1 k2 k3 k4 k5 k6 k7 ho1 hp1 hb1 hat1 hn1; have HA := HA'; clear HA')
            obtain ⟨k0, k1, k2, k3, k4, k5, k6, k7⟩ := HA.out.cells
            go_upto_region 11 with (go_at_call 19; refine (c_radd a c rs r _ _ HA.out.list HC.out.1 HC.out.2 HA.out.rule).mono ?_; rintro e w5 ⟨v2, rs2, rfl, ho2, hp2, hb2⟩; obtain ⟨a2, c2, rfl, hn2, hat2⟩ := ho2.shape; have HA' := Lib.hid (HA.out.step hb2); have HQ1 := Lib.hid (RulesAt.below HAT1.out hb2 (Nat.le_refl _)); have HAT2 := Lib.hid hat2; have HP2 := Lib.hid hp2; have HC2 := Lib.hid (And.intro ho2.2.1.cap_le hn2); clear HA k0 k1 k2 k3 k4 k5 k6 k7 ho2 hp2 hb2 hat2 hn2 HAT1; have HA := HA'; clear HA'; have HAT1 := HQ1; clear HQ1)
            obtain ⟨k0, k1, k2, k3, k4, k5, k6, k7⟩ := HA.out.cells
            go_upto_region 12 with (go_at_call 20; refine (c_premove a c rs r _ HA.out.list HC.out.1 HA.out.rule).mono ?_; rintro e w6 ⟨v3, rs3, rfl, ho3, hp3, hb3⟩; obtain ⟨a3, c3, rfl, hn3, hat3⟩ := ho3.shape; have HA' := Lib.hid (HA.out.step hb3); have HQ1 := Lib.hid (RulesAt.below HAT1.out hb3 (Nat.le_refl _)); have HQ2 := Lib.hid (RulesAt.below HAT2.out hb3 (Nat.le_refl _)); have HAT3 := Lib.hid hat3; have HP3 := Lib.hid hp3; have HC3 := Lib.hid (And.intro ho3.2.1.cap_le hn3); clear HA k0 k1 k2 k3 k4 k5 k6 k7 ho3 hp3 hb3 hat3 hn3 HAT1 HAT2; have HA := HA'; clear HA'; have HAT1 := HQ1; clear HQ1; have HAT2 := HQ2; clear HQ2)
            obtain ⟨k0, k1, k2, k3, k4, k5, k6, k7⟩ := HA.out.cells
            go_upto_region 13 with (go_at_call 21; refine (c_rremove a c rs r _ HA.out.list HC.out.1 HC.out.2 HA.out.rule).mono ?_; rintro e w7 ⟨v4, rs4, rfl, ho4, hp4, hb4⟩; obtain ⟨a4, c4, rfl, hn4, hat4⟩ := ho4.shape; have HA' := Lib.hid (HA.out.step hb4); have HQ1 := Lib.hid (RulesAt.below HAT1.out hb4 (Nat.le_refl _)); have HQ2 := Lib.hid (RulesAt.below HAT2.out hb4 (Nat.le_refl _)); have HQ3 := Lib.hid (RulesAt.below HAT3.out hb4 (Nat.le_refl _)); have HAT4 := Lib.hid hat4; have HP4 := Lib.hid hp4; have HC4 := Lib.hid (And.intro ho4.2.1.cap_le hn4); clear HA k0 k1 k2 k3 k4 k5 k6 k7 ho4 hp4 hb4 hat4 hn4 HAT1 HAT2 HAT3; have HA := HA'; clear HA'; have HAT1 := HQ1; clear HQ1; have HAT2 := HQ2; clear HQ2; have HAT3 := HQ3; clear HQ3)
            obtain ⟨k0, k1, k2, k3, k4, k5, k6, k7⟩ := HA.out.cells
            have hab : sameR rs1 rs2 = true := sameR_of_p _ _ (HP1.out.trans HP2.out.symm)
            have hcd : sameR rs3 rs4 = true := sameR_of_p _ _ (HP3.out.trans HP4.out.symm)
            have hs1 := fun W (hW : Below w7.heap.size w7 W) => c_same a1 a2 c1 c2 rs1 rs2 W (RulesAt.below HAT1.out hW (Nat.le_refl _)) (RulesAt.below HAT2.out hW (Nat.le_refl _))
            have hs2 := fun W (hW : Below w7.heap.size w7 W) => c_same a3 a4 c3 c4 rs3 rs4 W (RulesAt.below HAT3.out hW (Nat.le_refl _)) (RulesAt.below HAT4.out hW (Nat.le_refl _))
            simp only [hab] at hs1
            simp only [hcd] at hs2
            have HS1 := Lib.hid hs1
            have HS2 := Lib.hid hs2
            have HF1 := Lib.hid (fun W (hW : Below w7.heap.size w7 W) => c_pfind a c rs r W (HA.out.list.below hW (Nat.le_refl _)) (HA.out.rule.below hW (Nat.le_refl _)))
            have HF2 := Lib.hid (fun W (hW : Below w7.heap.size w7 W) => c_rfind a c rs r W (HA.out.list.below hW (Nat.le_refl _)) (HA.out.rule.below hW (Nat.le_refl _)))
            have HK1 := Lib.hid (fun W (hW : Below w7.heap.size w7 W) => c_check a c rs W (HA.out.list.below hW (Nat.le_refl _)) HC.out.1)
            have HK2 := Lib.hid (fun W (hW : Below w7.heap.size w7 W) => c_rcheck a c rs W (HA.out.list.below hW (Nat.le_refl _)) HC.out.1)
            have HAA := Lib.hid (show ∀ wz, Below w7.heap.size w7 wz → wz.cell? ⟨b, 0, none⟩ = some (.int .i64 r.list) ∧ wz.cell? ⟨b, 1, none⟩ = some (.int .i64 r.action) ∧ wz.cell? ⟨b, 2, none⟩ = some (.int .u64 r.calls) ∧ wz.cell? ⟨b, 3, none⟩ = some (.slice r.ta r.tests.length r.tc) ∧ wz.cell? ⟨b, 4, none⟩ = some (.int .i64 r.watch) ∧ wz.cell? ⟨b, 5, none⟩ = some (.string r.path) ∧ wz.cell? ⟨b, 6, none⟩ = some (.int .i64 r.perm) ∧ wz.cell? ⟨b, 7, none⟩ = some (.string r.key) from fun wz hb => HA.out.cells.block (hb.block b (lt_of_some HA.out.box)))
            have HB2 := Lib.hid (pw_drew (Below.refl w7.heap.size w7))
            clear hab hcd hs1 hs2
            go_upto_region 13 with fail
            have hzz := HAA.out _ HB2.out
            go_region_held3 (fun wz => wz.cell? ⟨b, 0, none⟩ = some (.int .i64 r.list) ∧ wz.cell? ⟨b, 1, none⟩ = some (.int .i64 r.action) ∧ wz.cell? ⟨b, 2, none⟩ = some (.int .u64 r.calls) ∧ wz.cell? ⟨b, 3, none⟩ = some (.slice r.ta r.tests.length r.tc) ∧ wz.cell? ⟨b, 4, none⟩ = some (.int .i64 r.watch) ∧ wz.cell? ⟨b, 5, none⟩ = some (.string r.path) ∧ wz.cell? ⟨b, 6, none⟩ = some (.int .i64 r.perm) ∧ wz.cell? ⟨b, 7, none⟩ = some (.string r.key)) (exact HAA.out _ HB2.out) (first
              | (go_at_call_of 22 (Value.slice a1 rs1.length c1); refine (HS1.out _ HB2.out).mono ?_; rintro e w8 ⟨rfl, hb⟩; have HB2' := Lib.hid (HB2.out.trans (hb.mono HB2.out.size)); clear hb HB2; have HB2 := HB2'; clear HB2')
              | (go_at_call_of 22 (Value.slice a3 rs3.length c3); refine (HS2.out _ HB2.out).mono ?_; rintro e w8 ⟨rfl, hb⟩; have HB2' := Lib.hid (HB2.out.trans (hb.mono HB2.out.size)); clear hb HB2; have HB2 := HB2'; clear HB2')
              | (go_at_call 23; refine (HF1.out _ HB2.out).mono ?_; rintro e w8 ⟨rfl, hb⟩; have HB2' := Lib.hid (HB2.out.trans (hb.mono HB2.out.size)); clear hb HB2; have HB2 := HB2'; clear HB2')
              | (go_at_call 24; refine (HF2.out _ HB2.out).mono ?_; rintro e w8 ⟨rfl, hb⟩; have HB2' := Lib.hid (HB2.out.trans (hb.mono HB2.out.size)); clear hb HB2; have HB2 := HB2'; clear HB2')
              | (go_at_call 25; refine (HK1.out _ HB2.out).mono ?_; rintro e w8 ⟨rfl, hb⟩; have HB2' := Lib.hid (HB2.out.trans (hb.mono HB2.out.size)); clear hb HB2; have HB2 := HB2'; clear HB2')
              | (go_at_call 26; refine (HK2.out _ HB2.out).mono ?_; rintro e w8 ⟨rfl, hb⟩; have HB2' := Lib.hid (HB2.out.trans (hb.mono HB2.out.size)); clear hb HB2; have HB2 := HB2'; clear HB2'))
            have HA8 := Lib.hid (HA.out.step HB2.out)
            have HT2 := Lib.hid (RulesAt.below HAT2.out HB2.out (Nat.le_refl _))
            have HT4 := Lib.hid (RulesAt.below HAT4.out HB2.out (Nat.le_refl _))
            clear hzz HS1 HS2 HF1 HF2 HK1 HK2 HAA HA HB2 HAT1 HAT2 HAT3 HAT4 k0 k1 k2 k3 k4 k5 k6 k7
            have HA := HA8
            clear HA8
            obtain ⟨k0, k1, k2, k3, k4, k5, k6, k7⟩ := HA.out.cells
            go_upto_if 104 with (first
              | (go_at_call 11; refine (c_n w.heap.size la xs lc _ _ _ HA.out.mill.src (by omega) (by decide) (by decide)).mono ?_; rintro e w9 ⟨y, n9, rfl, ⟨hy1, hy2⟩, hs9, hn9, hm9⟩; have HA' := Lib.hid (HA.out.draw hs9 hn9 hm9); have HQ2 := Lib.hid (HT2.out.keep (HA.out.mill.src.keeps hm9 (by decide)) (HA.out.mill.src.keeps hm9 (by decide))); have HQ4 := Lib.hid (HT4.out.keep (HA.out.mill.src.keeps hm9 (by decide)) (HA.out.mill.src.keeps hm9 (by decide))); clear hs9 hn9 hm9 HA HT2 HT4 k0 k1 k2 k3 k4 k5 k6 k7; have HA := HA'; have HT2 := HQ2; have HT4 := HQ4; clear HA' HQ2 HQ4; have hle := HA.out.mill.le; obtain ⟨k0, k1, k2, k3, k4, k5, k6, k7⟩ := HA.out.cells))
            by_cases hy : y = 7
            · subst hy
              go_upto_region 16 with fail
              have HROW := Lib.hid (fun W (hW : Below w9.heap.size w9 W) => (HA.out.list.below hW (Nat.le_refl _)).2.1)
              have HBa := Lib.hid (pw_drew (Below.refl w9.heap.size w9))
              have HBb := Lib.hid ((pw_drew (Below.refl w9.heap.size w9)).alloc (Nat.le_refl _) (ruleBox r))
              go_region_law (first
                | (refine step_append_lies _ (by rfl) _ _ 25 (by rfl) w9.heap.size tRule i0 _ 8 96 Tryz.underlying25 HI.out hz0 hz1 hz2 rfl (by decide) v4 rs.length (rs.flatMap Rule.cells) (by rfl) (HO4.out.alloc _) ⟨w4.heap.size, 0, none⟩ 1 1 r.cells (by rfl) rfl (news_new _ _ _) (one_rule r) (by decide) (by unfold maxLen; omega) (by omega) (by simp; exact Nat.le_succ_of_le HB4.out.size) _ rfl ?_; intro g cap w5 hown5 hg5 hgb5 hlt5; have HF := Lib.hid (ch_fin HA.out (by omega) hown5 (below_own (HO4.out.alloc _) hg5 (HB4.out.alloc HB4.out.size _) (by simp; exact Nat.le_succ_of_le HB4.out.size))); clear hown5 hg5 hgb5 hlt5)
                | (refine step_append_lies _ (by rfl) _ _ 25 (by rfl) w9.heap.size tRule i0 _ 8 96 Tryz.underlying25 HI.out hz0 hz1 hz2 rfl (by decide) v4 rs.length (rs.flatMap Rule.cells) (by rfl) HO4.out ⟨w9.drew.heap.size, 0, none⟩ 1 1 r.cells (by rfl) rfl (news_at HN.out) (one_rule r) (by decide) (by unfold maxLen; omega) (by omega) HB4.out.size _ rfl ?_; intro g cap w5 hown5 hg5 hgb5 hlt5; have HF := Lib.hid (ch_fin HA.out (by omega) hown5 (below_own HO4.out hg5 HB4.out HB4.out.size)); clear hown5 hg5 hgb5 hlt5)
                | (refine step_append_row (by rfl) _ _ 25 (by rfl) tRule i0 _ 8 96 Tryz.underlying25 HI.out hz0 hz1 hz2 rfl (by decide) w9.heap.size (.slice none 0 0) 0 [] (by rfl) (World.ownsRow_nil _ _ _ _) Rule.cells rs (fun _ => rfl) one_rule a rs.length c rfl (by rfl) HC.out.2 (HROW.out _ HBa.out) (by unfold maxLen; omega) (by omega) HBa.out.size ?_; intro v4 w4 hown4 hg4; rw [Nat.zero_add, List.nil_append] at hown4; have HO4 := Lib.hid hown4; have HB4 := Lib.hid (below_none HBa.out hg4 HBa.out.size); obtain ⟨q0, q1, q2, q3, q4, q5, q6, q7⟩ := (HA.out.step HB4.out).cells; clear hown4 hg4)
                | (refine step_append_row (by rfl) _ _ 25 (by rfl) tRule i0 _ 8 96 Tryz.underlying25 HI.out hz0 hz1 hz2 rfl (by decide) w9.heap.size (.slice none 0 0) 0 [] (by rfl) (World.ownsRow_nil _ _ _ _) Rule.cells rs (fun _ => rfl) one_rule a rs.length c rfl (by rfl) HC.out.2 (HROW.out _ HBb.out) (by unfold maxLen; omega) (by omega) HBb.out.size ?_; intro v4 w4 hown4 hg4; rw [Nat.zero_add, List.nil_append] at hown4; have HO4 := Lib.hid hown4; have HB4 := Lib.hid (below_none HBb.out hg4 HBb.out.size); obtain ⟨q0, q1, q2, q3, q4, q5, q6, q7⟩ := (HA.out.step HB4.out).cells; have HN := Lib.hid ((hg4.block _ (by show w9.heap.size < (w9.alloc _).heap.size; rw [World.size_alloc]; exact Nat.lt_succ_self _) (fun h => by cases h)).trans (heap_new w9.drew (ruleBox r)) : w4.heap[w9.drew.heap.size]? = some (ruleBox r)); clear hown4 hg4))
              all_goals
                go_wp2
                go_roundg (gk - 1)
                case measure => omega
                case rel => exact ⟨k + 1, some ⟨g, 0, none⟩, cap, rs ++ [r], _, by omega, (by simp; omega), by simp, by go_num, (by rw [List.length_append]; exact HF.out.1), HF.out.2.1, HF.out.2.2.up (by omega)⟩
            · by_cases hc : addCode rs r = 0
              · go_wp2
                go_roundg (gk - 1)
                case measure => omega
                case rel => exact ⟨k + 1, a2, c2, rs2, _, by omega, (by rw [add_len HP2.out hc]; omega), rfl, by go_num, HC2.out, HT2.out, HA.out.mill.up (by omega)⟩
              · by_cases hd : removeCode rs r = 0
                · go_wp2_with (first
                    | (go_at_call 11; refine (c_n w.heap.size la xs lc _ _ _ HA.out.mill.src (by omega) (by decide) (by decide)).mono ?_; rintro e w9 ⟨y, n9, rfl, ⟨hy1, hy2⟩, hs9, hn9, hm9⟩; have HA' := Lib.hid (HA.out.draw hs9 hn9 hm9); have HQ2 := Lib.hid (HT2.out.keep (HA.out.mill.src.keeps hm9 (by decide)) (HA.out.mill.src.keeps hm9 (by decide))); have HQ4 := Lib.hid (HT4.out.keep (HA.out.mill.src.keeps hm9 (by decide)) (HA.out.mill.src.keeps hm9 (by decide))); clear hs9 hn9 hm9 HA HT2 HT4 k0 k1 k2 k3 k4 k5 k6 k7; have HA := HA'; have HT2 := HQ2; have HT4 := HQ4; clear HA' HQ2 HQ4; have hle := HA.out.mill.le; obtain ⟨k0, k1, k2, k3, k4, k5, k6, k7⟩ := HA.out.cells))
                  all_goals go_roundg (gk - 1)
                  all_goals (try (case measure => omega))
                  · exact ⟨k + 1, a4, c4, rs4, _, by omega, Nat.le_trans (remove_len HP4.out) (by omega), rfl, by go_num, HC4.out, HT4.out, HA.out.mill.up (by omega)⟩
                  · exact ⟨k + 1, a, c, rs, _, by omega, by omega, rfl, by go_num, HC.out, HA.out.list, HA.out.mill.up (by omega)⟩
                · go_wp2
                  go_roundg (gk - 1)
                  case measure => omega
                  case rel => exact ⟨k + 1, a, c, rs, _, by omega, by omega, rfl, by go_num, HC.out, HA.out.list, HA.out.mill.up (by omega)⟩
    · go_wp2_with (first | (go_at_call 16; refine (c_awake _).mono ?_; rintro e w9 ⟨rfl, hb⟩; have HB9 := Lib.hid hb; clear hb))
      go_ret
      exact ⟨rfl, (Below.moved HB.out HM.out.moved (Nat.le_refl _) HB.out.size).trans (HB9.out.mono (Nat.le_trans HB.out.size HM.out.moved.size))⟩
end Go.Proofs.YtnbfenapnfbmeaaGreat
