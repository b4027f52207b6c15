/- Contracts: a rule matches (the reference). -/
import Derived.Test.YtnbfenapnfbmeaaGreatP3
set_option linter.unusedSimpArgs false
set_option linter.unusedVariables false
namespace Go.Proofs.YtnbfenapnfbmeaaGreat
open Go.RowKit
theorem MatchAt.step {w W W' : World} {r : Rule} {X : Ctx} (h : MatchAt w r X W) (hb : Below W.heap.size W W') : MatchAt w r X W' :=
  ⟨h.below.trans (hb.mono h.below.size), (hb.block _ (lt_of_some h.rb)).trans h.rb, (hb.block _ (lt_of_some h.xb)).trans h.xb⟩
theorem MatchAt.drewN {w W : World} {r : Rule} {X : Ctx} (h : MatchAt w r X W) (n : Nat) : MatchAt w r X (W.drewN n) := ⟨pw_drewN h.below n, h.rb, h.xb⟩
theorem MatchAt.cells {w W : World} {r : Rule} {X : Ctx} (h : MatchAt w r X W) :
    W.cell? ⟨w.heap.size, 2, none⟩ = some (.int .u64 r.calls) ∧ W.cell? ⟨w.heap.size, 3, none⟩ = some (.slice r.ta r.tests.length r.tc) ∧ W.cell? ⟨w.heap.size, 4, none⟩ = some (.int .i64 r.watch) ∧ W.cell? ⟨w.heap.size + 1, 15, none⟩ = some (.int .i64 X.call) := by
  have c := cell_of_block h.rb
  have d := cell_of_block h.xb
  exact ⟨c 2, c 3, c 4, d 15⟩
set_option maxRecDepth 100000 in
set_option maxHeartbeats 2000000 in
theorem c_rmatches (r : Rule) (hit : Bool) (X : Ctx) (w : World) (hr : RuleAt w r) (hi : ItemsAt w X.ia X.items) :
    Calls Tryz.prog 13 #[r.v, .bool hit, X.v] w (HoldsPost w (matchesB r hit X)) := by
  have HA := Lib.hid (MatchAt.new w r X)
  have HR := Lib.hid hr
  have HI := Lib.hid hi
  have HM := Lib.hid (show matchesB r hit X = ((r.calls == 0 || maskHas r.calls X.call) && (r.watch == 0 || hit) && !(r.tests.any (fun t => !evalB t X))) from rfl)
  have hlen := hr.1.1
  clear hr hi
  go_enter Tryz.func13, Tryz.ntmps13
  go_upto_region 1 with fail
  obtain ⟨W1, hW1⟩ : ∃ W1, W1 = (w.alloc (ruleBox r)).alloc (ctxBox X) := ⟨_, rfl⟩
  change Code.wp _ _ _ _ ((w.alloc (ruleBox r)).alloc (ctxBox X))
  rw [← hW1] at HA ⊢
  clear hW1
  obtain ⟨k0, k1, k2, k3⟩ := HA.out.cells
  go_cut [28] (fun v wc => ∃ q, v = .bool q ∧ Aside (q = !((r.calls == 0 || maskHas r.calls X.call) && (r.watch == 0 || hit))) ∧ Aside (MatchAt w r X wc))
  case first =>
    cases hit
    all_goals by_cases h0 : r.calls = 0
    all_goals by_cases h1 : r.watch = 0
    all_goals (try (cases h2 : maskHas r.calls X.call))
    all_goals
      go_wp2_with (go_at_call 37; refine (c_rhas _ _ _).mono ?_; rintro e w' ⟨rfl, rfl⟩)
      go_meet
      exact ⟨_, rfl, (show _ = _ from by first | (simp [*]; done) | (simp [*]; rfl)), HA.out⟩
  case rest =>
    obtain ⟨q, rfl, HQ, HA1⟩ := hcut
    have HQ2 := Lib.hid (show q = !((r.calls == 0 || maskHas r.calls X.call) && (r.watch == 0 || hit)) from HQ)
    clear HQ HA k0 k1 k2 k3
    have HA := Lib.hid HA1
    clear HA1
    cases q
    case true =>
      have hc : ((r.calls == 0 || maskHas r.calls X.call) && (r.watch == 0 || hit)) = false := by
        have h := HQ2.out
        revert h
        generalize ((r.calls == 0 || maskHas r.calls X.call) && (r.watch == 0 || hit)) = z
        cases z <;> simp
      rw [hc] at HM
      clear HQ2 hc
      go_wp2
      go_ret
      exact ⟨ret_bool (by rw [HM.out]; rfl), HA.out.below⟩
    case false =>
      have hc : ((r.calls == 0 || maskHas r.calls X.call) && (r.watch == 0 || hit)) = true := by
        have h := HQ2.out
        revert h
        generalize ((r.calls == 0 || maskHas r.calls X.call) && (r.watch == 0 || hit)) = z
        cases z <;> simp
      rw [hc, Bool.true_and] at HM
      clear HQ2 hc
      go_wp2
      go_loopg [7] r.tests.length (fun gg s7 wr => ∃ k : Nat, k ≤ r.tests.length ∧ r.tests.length - k ≤ gg ∧ s7 = .int .i64 k ∧ Aside (r.tests.any (fun t => !evalB t X) = (r.tests.drop k).any (fun t => !evalB t X)) ∧ Aside (MatchAt w r X wr))
      case atStart => exact ⟨0, Nat.zero_le _, by omega, rfl, rfl, HA.out⟩
      case round =>
        clear HA
        obtain ⟨k, hk, hg, rfl, HT, HA1⟩ := hrel
        have HA := Lib.hid HA1
        clear HA1
        obtain ⟨_, k1, _, _⟩ := HA.out.cells
        by_cases hlt : k < r.tests.length
        · obtain ⟨b, o, ha, hb, d0, d1, d2, d3, d4⟩ := HR.out.1.at HA.out.below k hlt
          have hs := any_drop (fun t => !evalB t X) r.tests k hlt
          generalize r.tests[k] = t at d0 d1 d2 d3 d4 hs
          have HS := Lib.hid hs
          clear hs
          have hl2 : (k : Int) < (r.tests.length : Int) := by omega
          rw [ha] at k1
          clear ha
          have HD := Lib.hid (show MatchAt w r X wr.drew from HA.out.drewN 1)
          have hev := fun W (hW : MatchAt w r X W) => c_rEval t X W (HI.out.below hW.below (Nat.le_refl _))
          rw [eval_eq] at hev
          cases he : evalB t X
          all_goals
            rw [he] at hev
            have HC := Lib.hid hev
            clear hev
            go_upto_region 6 with fail
            go_still_tail 6, (by kernel_rfl)
            refine still_load_row (by rfl) 38 _ (by rfl) (w.heap.size + 1) (by rfl) 38 X.vs (0, 0) _ HA.out.xb Tryz.underlying38 rfl (by kernel_rfl) ?_
            refine wpStill_nil ?_
            change wpList _ _ _ _ _ wr.drew
            generalize wr.drew = w2 at HD ⊢
            go_wp2_with (go_at_call 38; refine (HC.out w2 HD.out).mono ?_; rintro e w3 ⟨rfl, hb3⟩)
          · go_ret
            exact ⟨ret_bool (by rw [HM.out, HT, HS.out]; simp [he]), (HD.out.step hb3).below⟩
          · have HN := Lib.hid (show r.tests.any (fun t => !evalB t X) = (r.tests.drop (k + 1)).any (fun t => !evalB t X) from by rw [HT, HS.out]; simp [he])
            go_roundg (gk - 1)
            case measure => omega
            case rel => exact ⟨k + 1, by omega, by omega, by go_num, HN.out, HD.out.step hb3⟩
        · go_wp2
          go_ret
          exact ⟨ret_bool (by rw [HM.out, HT, List.drop_of_length_le (by omega)]; rfl), HA.out.below⟩
end Go.Proofs.YtnbfenapnfbmeaaGreat
/- Contracts: the first rule that matches (the reference). -/
set_option linter.unusedSimpArgs false
set_option linter.unusedVariables false
namespace Go.Proofs.YtnbfenapnfbmeaaGreat
open Go.RowKit
abbrev tBool : TypeId := 4
theorem HitsAt.at {w wr : World} {a : Option Addr} {hs : List Bool} (h : HitsAt w a hs) (hb : Below w.heap.size w wr) (k : Nat) (hk : k < hs.length) :
    ∃ b off, a = some ⟨b, off, none⟩ ∧ wr.cell? ⟨b, off + k, none⟩ = some (.bool hs[k]) := by
  obtain ⟨b, off, cs, fz, ha, hh, hc⟩ := h.2 k hk
  have hw : wr.heap[b]? = some (.cells cs tBool fz) := (hb.block b (lt_of_some hh)).trans hh
  have := hc 0 _ rfl
  simp only [Nat.mul_one, Nat.add_zero] at this
  exact ⟨b, off, ha, by rw [World.cell?]; simp only [hw]; exact this⟩
structure CtxAt (w : World) (X : Ctx) (W : World) : Prop where
  below : Below w.heap.size w W
  xb : W.heap[w.heap.size]? = some (ctxBox X)
theorem CtxAt.step {w W W' : World} {X : Ctx} (h : CtxAt w X W) (hb : Below W.heap.size W W') : CtxAt w X W' := ⟨h.below.trans (hb.mono h.below.size), (hb.block _ (lt_of_some h.xb)).trans h.xb⟩
set_option maxRecDepth 100000 in
set_option maxHeartbeats 2000000 in
theorem c_rfirst (a : Option Addr) (c : Nat) (rs : List Rule) (list : Int) (ha : Option Addr) (hc : Nat) (hs : List Bool) (X : Ctx) (w : World) (hl : RulesAt w a rs) (hh : HitsAt w ha hs) (hi : ItemsAt w X.ia X.items) :
    Calls Tryz.prog 15 #[.slice a rs.length c, .int .i64 list, .slice ha hs.length hc, X.v] w (fun e w' => e = .returned (.int .i64 (firstB rs list hs X)) ∧ Below w.heap.size w w') := by
  have hl1 := hl.1
  have hh1 := hh.1
  have HL := Lib.hid hl
  have HH := Lib.hid hh
  have HI := Lib.hid hi
  have HF := Lib.hid (show firstB rs list hs X = findIx (firstP list hs X) 0 rs from rfl)
  clear hl hh hi
  go_enter Tryz.func15, Tryz.ntmps15
  go_wp2
  go_loopg [9] rs.length (fun gg s9 wr => ∃ k : Nat, k ≤ rs.length ∧ rs.length - k ≤ gg ∧ s9 = .int .i64 k ∧ Aside (firstB rs list hs X = findIx (firstP list hs X) k (rs.drop k)) ∧ Aside (CtxAt w X wr))
  case atStart => exact ⟨0, Nat.zero_le _, by omega, rfl, HF.out, ⟨(Below.refl _ w).alloc (Nat.le_refl _) _, heap_new _ _⟩⟩
  case round =>
    obtain ⟨k, hk, hg, rfl, HT, HA1⟩ := hrel
    have HA := Lib.hid HA1
    clear HA1
    by_cases hlt : k < rs.length
    · obtain ⟨b, o, hea, hb, hat, d0, d1, d2, d3, d4, d5, d6, d7⟩ := HL.out.at HA.out.below k hlt
      have hs2 := findIx_drop (firstP list hs X) rs k hlt
      generalize rs[k] = x at hat d0 d1 d2 d3 d4 d5 d6 d7 hs2
      have HS := Lib.hid hs2
      have HAT := Lib.hid hat
      clear hs2 hat
      have hl2 : (k : Int) < (rs.length : Int) := by omega
      subst hea
      have HD := Lib.hid (show CtxAt w X wr.drew from ⟨pw_drew HA.out.below, HA.out.xb⟩)
      by_cases hql : x.list = list
      case neg =>
        have hq : (x.list == list) = false := by simp [hql]
        have HN := Lib.hid (show firstB rs list hs X = findIx (firstP list hs X) (k + 1) (rs.drop (k + 1)) from by rw [HT, HS.out, if_neg (by simp [firstP, hq])])
        clear hql
        go_upto_region 4 with fail
        go_quiet (fail)
        go_wp2
        go_roundg (gk - 1)
        case measure => omega
        case rel => exact ⟨k + 1, by omega, by omega, by go_num, HN.out, ⟨pw_drewN HA.out.below _, HA.out.xb⟩⟩
      case pos =>
        have hq : (x.list == list) = true := by simp [hql]
        have HQ := Lib.hid hql
        clear hql
        by_cases hkh : k < hs.length
        case pos =>
          obtain ⟨b2, o2, he2, dh⟩ := HH.out.at HA.out.below k hkh
          have HG := Lib.hid (show hs.getD k false = hs[k] from by simp [List.getD, hkh])
          generalize hs[k] = h1 at dh HG
          subst he2
          have hkh2 : (k : Int) < (hs.length : Int) := by omega
          cases hm : matchesB x h1 X
          all_goals
            have hev := fun W (hW : CtxAt w X W) => c_rmatches x h1 X W (HAT.out.below hW.below (Nat.le_refl _)) (HI.out.below hW.below (Nat.le_refl _))
            rw [hm] at hev
            have HC := Lib.hid hev
            clear hev
            go_upto_region 4 with fail
            go_still_tail 23, (by kernel_rfl)
            refine still_load_row (by rfl) 38 _ (by rfl) w.heap.size (by rfl) 38 X.vs (0, 0) _ HA.out.xb Tryz.underlying38 rfl (by kernel_rfl) ?_
            repeat still_step
            refine wpStill_nil ?_
            change wpList _ _ _ _ _ wr.drew
            generalize wr.drew = w2 at HD ⊢
            go_wp2_with (go_at_call 13; refine (HC.out w2 HD.out).mono ?_; rintro e w3 ⟨rfl, hb3⟩)
          · have HN := Lib.hid (show firstB rs list hs X = findIx (firstP list hs X) (k + 1) (rs.drop (k + 1)) from by rw [HT, HS.out, if_neg (by unfold firstP; rw [HG.out, hm]; simp)])
            go_roundg (gk - 1)
            case measure => omega
            case rel => exact ⟨k + 1, by omega, by omega, by go_num, HN.out, HD.out.step hb3⟩
          · go_ret
            exact ⟨ret_int (by rw [HT, HS.out, if_pos (by unfold firstP; rw [HG.out, hm, HQ.out]; simp)]), (HD.out.step hb3).below⟩
        case neg =>
          have HG := Lib.hid (show hs.getD k false = false from by simp [List.getD, List.getElem?_eq_none (Nat.le_of_not_lt hkh)])
          have hkh2 : ¬ (k : Int) < (hs.length : Int) := by omega
          cases hm : matchesB x false X
          all_goals
            have hev := fun W (hW : CtxAt w X W) => c_rmatches x false X W (HAT.out.below hW.below (Nat.le_refl _)) (HI.out.below hW.below (Nat.le_refl _))
            rw [hm] at hev
            have HC := Lib.hid hev
            clear hev
            go_upto_region 4 with fail
            go_still_tail 23, (by kernel_rfl)
            refine still_load_row (by rfl) 38 _ (by rfl) w.heap.size (by rfl) 38 X.vs (0, 0) _ HA.out.xb Tryz.underlying38 rfl (by kernel_rfl) ?_
            repeat still_step
            refine wpStill_nil ?_
            change wpList _ _ _ _ _ wr.drew
            generalize wr.drew = w2 at HD ⊢
            go_wp2_with (go_at_call 13; refine (HC.out w2 HD.out).mono ?_; rintro e w3 ⟨rfl, hb3⟩)
          · have HN := Lib.hid (show firstB rs list hs X = findIx (firstP list hs X) (k + 1) (rs.drop (k + 1)) from by rw [HT, HS.out, if_neg (by unfold firstP; rw [HG.out, hm]; simp)])
            go_roundg (gk - 1)
            case measure => omega
            case rel => exact ⟨k + 1, by omega, by omega, by go_num, HN.out, HD.out.step hb3⟩
          · go_ret
            exact ⟨ret_int (by rw [HT, HS.out, if_pos (by unfold firstP; rw [HG.out, hm, HQ.out]; simp)]), (HD.out.step hb3).below⟩
    · go_wp2
      go_ret
      exact ⟨ret_int (by rw [HT, List.drop_of_length_le (by omega)]; rfl), HA.out.below⟩
end Go.Proofs.YtnbfenapnfbmeaaGreat
