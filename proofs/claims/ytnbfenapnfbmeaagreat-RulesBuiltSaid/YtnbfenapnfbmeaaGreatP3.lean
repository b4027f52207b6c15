/- Contracts: the evaluation of tests (the reference): of a context; it answers as the program does. -/
import Derived.Test.YtnbfenapnfbmeaaGreatP1
import Derived.Test.YtnbfenapnfbmeaaGreatH1
import Derived.Deep.MidRow
set_option linter.unusedSimpArgs false
set_option linter.unusedVariables false
namespace Go.Proofs.YtnbfenapnfbmeaaGreat
open Go.RowKit
def itemHit (t : Test) (X : Ctx) (it : Item) : Bool := !fileEq it.fd it.fi 0 0 && oneB t X it
def evalR (t : Test) (X : Ctx) : Bool :=
  if !soundUp t 5 || (!hasB t.field X || (t.other != 0 && !hasB t.other X)) then false else if !itemF t.field && !itemF t.other then oneB t X itemZ else X.items.any (itemHit t X)
theorem any_drop {α : Type} (p : α → Bool) (l : List α) (k : Nat) (h : k < l.length) : (l.drop k).any p = (p l[k] || (l.drop (k + 1)).any p) := by
  rw [List.drop_eq_getElem_cons h, List.any_cons]
theorem wpList_load_rowA {P : Program} {ops : Array Oper} {rest : List Oper} {o : Oper} {a : Act} {w : World} {Q : Exit → Act → World → Prop} (gd : Tmp × Bool) (hgd : o.guard = some gd) (hw : Region.wanted o (yielded ops a.tmps) = true) (ty : TypeId) (x : Operand) (ho : o.op = .load ty x)
    (g : Nat) (hx : a.eval x = .pointer (some ⟨g, 0, none⟩)) (t : TypeId) (cs : Array Value) (fr : Nat × Nat) (d : TypeDesc) (hg : w.heap[g]? = some (.cells cs t fr))
    (hu : P.underlying ty = some d) (hd : (match d with | .struct _ | .array _ _ => true | _ => false) = true) (hi : (P.info? ty).map (·.size) = some cs.size)
    (h : wpList P ops Q rest (a.put o.dst (.agg cs)) w) : wpList P ops Q (o :: rest) a w := wpList_load_rowG hw ty x ho g hx t cs fr d hg hu hd hi h
abbrev itemCs (it : Item) : Array Value := #[.string it.given, .string it.path, .int .i64 it.dd, .int .i64 it.di, .string it.name, .int .i64 it.fd, .int .i64 it.fi, .int .i64 it.role, .int .i64 it.kind, .int .i64 it.mode, .int .i64 it.uid, .int .i64 it.gid, .int .i64 it.perm]
set_option maxRecDepth 100000 in
set_option maxHeartbeats 4000000 in
theorem c_rEval (t : Test) (X : Ctx) (w : World) (hit : ItemsAt w X.ia X.items) :
    Calls Tryz.prog 38 #[t.v, X.v] w (HoldsPost w (evalR t X)) := by
  have HA := Lib.hid (EvalAt.new w t X)
  have HI := Lib.hid hit
  clear hit
  have HE := Lib.hid (show evalR t X = if !soundUp t 5 || (!hasB t.field X || (t.other != 0 && !hasB t.other X)) then false else if !itemF t.field && !itemF t.other then oneB t X itemZ else X.items.any (itemHit t X) from rfl)
  obtain ⟨a0, a1, a2, a3, a4⟩ := HA.out.cells
  go_enter Tryz.func38, Tryz.ntmps38
  go_upto_region 1 with fail
  obtain ⟨W1, hW1⟩ : ∃ W1, W1 = (w.alloc (testBox t)).alloc (ctxBox X) := ⟨_, rfl⟩
  change Code.wp _ _ _ _ ((w.alloc (testBox t)).alloc (ctxBox X))
  rw [← hW1] at HA a0 a1 a2 a3 a4 ⊢
  clear hW1
  go_cut [27] (fun v wc => ∃ q, v = .bool q ∧ Aside (q = (!soundUp t 5 || (!hasB t.field X || (t.other != 0 && !hasB t.other X)))) ∧ Aside (EvalAt w t X wc))
  case first =>
    cases h1 : soundUp t 5
    case false =>
      have HS1 := Lib.hid (fun W => (h1 ▸ c_rsound t W : Calls Tryz.prog 65 #[t.v] W (HoldsPost W false)))
      go_wp2_with (go_at_call 65; refine (HS1.out W1).mono ?_; rintro e w' ⟨rfl, hb'⟩; have HA' := Lib.hid (HA.out.step hb'); clear a0 a1 a2 a3 a4 HA hb'; have HA := HA'; clear HA'; obtain ⟨a0, a1, a2, a3, a4⟩ := HA.out.cells)
      go_meet
      exact ⟨_, rfl, (show _ = _ from by simp [h1]), HA.out⟩
    case true =>
      have HS1 := Lib.hid (fun W => (h1 ▸ c_rsound t W : Calls Tryz.prog 65 #[t.v] W (HoldsPost W true)))
      cases h2 : hasB t.field X
      case false =>
        have HS2 := Lib.hid (fun W => (h2 ▸ c_rhasF t.field X W : Calls Tryz.prog 66 #[.int .i64 t.field, X.v] W (HoldsPost W false)))
        go_wp2_with (first | (refine wpList_load_rowA (3, false) (by rfl) (by kernel_rfl) 38 _ (by rfl) (w.heap.size + 1) (by rfl) 38 X.vs (0, 0) _ HA.out.xb Tryz.underlying38 rfl (by kernel_rfl) ?_) | (go_at_call 65; refine (HS1.out W1).mono ?_; rintro e w' ⟨rfl, hb'⟩; have HA' := Lib.hid (HA.out.step hb'); clear a0 a1 a2 a3 a4 HA hb'; have HA := HA'; clear HA'; obtain ⟨a0, a1, a2, a3, a4⟩ := HA.out.cells))
        go_at_call_of 66 (Value.int IntKind.i64 t.field)
        refine (HS2.out _).mono ?_
        rintro e w' ⟨rfl, hb'⟩
        have HA' := Lib.hid (HA.out.step hb')
        clear a0 a1 a2 a3 a4 HA hb'
        have HA := HA'
        clear HA'
        obtain ⟨a0, a1, a2, a3, a4⟩ := HA.out.cells
        go_wp2
        go_meet
        exact ⟨_, rfl, (show _ = _ from by simp [h1, h2]), HA.out⟩
      case true =>
        have HS2 := Lib.hid (fun W => (h2 ▸ c_rhasF t.field X W : Calls Tryz.prog 66 #[.int .i64 t.field, X.v] W (HoldsPost W true)))
        by_cases h0 : t.other = 0
        · have hb0 : (t.other != 0) = false := by simp [h0]
          have H0 := Lib.hid h0
          clear h0
          go_wp2_with (first | (refine wpList_load_rowA (3, false) (by rfl) (by kernel_rfl) 38 _ (by rfl) (w.heap.size + 1) (by rfl) 38 X.vs (0, 0) _ HA.out.xb Tryz.underlying38 rfl (by kernel_rfl) ?_) | (go_at_call 65; refine (HS1.out W1).mono ?_; rintro e w' ⟨rfl, hb'⟩; have HA' := Lib.hid (HA.out.step hb'); clear a0 a1 a2 a3 a4 HA hb'; have HA := HA'; clear HA'; obtain ⟨a0, a1, a2, a3, a4⟩ := HA.out.cells))
          go_at_call_of 66 (Value.int IntKind.i64 t.field)
          refine (HS2.out _).mono ?_
          rintro e w' ⟨rfl, hb'⟩
          have HA' := Lib.hid (HA.out.step hb')
          clear a0 a1 a2 a3 a4 HA hb'
          have HA := HA'
          clear HA'
          obtain ⟨a0, a1, a2, a3, a4⟩ := HA.out.cells
          go_wp2
          go_meet
          exact ⟨_, rfl, (show _ = _ from by simp [H0.out, h1, h2]), HA.out⟩
        · have hb0 : (t.other != 0) = true := by simp [h0]
          have H0 := Lib.hid h0
          clear h0
          cases h3 : hasB t.other X
          case false =>
            have HS3 := Lib.hid (fun W => (h3 ▸ c_rhasF t.other X W : Calls Tryz.prog 66 #[.int .i64 t.other, X.v] W (HoldsPost W false)))
            go_wp2_with (first | (refine wpList_load_rowA (3, false) (by rfl) (by kernel_rfl) 38 _ (by rfl) (w.heap.size + 1) (by rfl) 38 X.vs (0, 0) _ HA.out.xb Tryz.underlying38 rfl (by kernel_rfl) ?_) | (go_at_call 65; refine (HS1.out W1).mono ?_; rintro e w' ⟨rfl, hb'⟩; have HA' := Lib.hid (HA.out.step hb'); clear a0 a1 a2 a3 a4 HA hb'; have HA := HA'; clear HA'; obtain ⟨a0, a1, a2, a3, a4⟩ := HA.out.cells))
            go_at_call_of 66 (Value.int IntKind.i64 t.field)
            refine (HS2.out _).mono ?_
            rintro e w' ⟨rfl, hb'⟩
            have HA' := Lib.hid (HA.out.step hb')
            clear a0 a1 a2 a3 a4 HA hb'
            have HA := HA'
            clear HA'
            obtain ⟨a0, a1, a2, a3, a4⟩ := HA.out.cells
            go_wp2_with (refine wpList_load_rowA (14, true) (by rfl) (by kernel_rfl) 38 _ (by rfl) (w.heap.size + 1) (by rfl) 38 X.vs (0, 0) _ HA.out.xb Tryz.underlying38 rfl (by kernel_rfl) ?_)
            go_at_call_of 66 (Value.int IntKind.i64 t.other)
            refine (HS3.out _).mono ?_
            rintro e w' ⟨rfl, hb'⟩
            have HA' := Lib.hid (HA.out.step hb')
            clear a0 a1 a2 a3 a4 HA hb'
            have HA := HA'
            clear HA'
            obtain ⟨a0, a1, a2, a3, a4⟩ := HA.out.cells
            go_wp2
            go_meet
            exact ⟨_, rfl, (show _ = _ from by simp [H0.out, h1, h2, h3]), HA.out⟩
          case true =>
            have HS3 := Lib.hid (fun W => (h3 ▸ c_rhasF t.other X W : Calls Tryz.prog 66 #[.int .i64 t.other, X.v] W (HoldsPost W true)))
            go_wp2_with (first | (refine wpList_load_rowA (3, false) (by rfl) (by kernel_rfl) 38 _ (by rfl) (w.heap.size + 1) (by rfl) 38 X.vs (0, 0) _ HA.out.xb Tryz.underlying38 rfl (by kernel_rfl) ?_) | (go_at_call 65; refine (HS1.out W1).mono ?_; rintro e w' ⟨rfl, hb'⟩; have HA' := Lib.hid (HA.out.step hb'); clear a0 a1 a2 a3 a4 HA hb'; have HA := HA'; clear HA'; obtain ⟨a0, a1, a2, a3, a4⟩ := HA.out.cells))
            go_at_call_of 66 (Value.int IntKind.i64 t.field)
            refine (HS2.out _).mono ?_
            rintro e w' ⟨rfl, hb'⟩
            have HA' := Lib.hid (HA.out.step hb')
            clear a0 a1 a2 a3 a4 HA hb'
            have HA := HA'
            clear HA'
            obtain ⟨a0, a1, a2, a3, a4⟩ := HA.out.cells
            go_wp2_with (refine wpList_load_rowA (14, true) (by rfl) (by kernel_rfl) 38 _ (by rfl) (w.heap.size + 1) (by rfl) 38 X.vs (0, 0) _ HA.out.xb Tryz.underlying38 rfl (by kernel_rfl) ?_)
            go_at_call_of 66 (Value.int IntKind.i64 t.other)
            refine (HS3.out _).mono ?_
            rintro e w' ⟨rfl, hb'⟩
            have HA' := Lib.hid (HA.out.step hb')
            clear a0 a1 a2 a3 a4 HA hb'
            have HA := HA'
            clear HA'
            obtain ⟨a0, a1, a2, a3, a4⟩ := HA.out.cells
            go_wp2
            go_meet
            exact ⟨_, rfl, (show _ = _ from by simp [H0.out, h1, h2, h3]), HA.out⟩
  case rest =>
    obtain ⟨q, rfl, HQ, HA1⟩ := hcut
    rw [← show q = _ from HQ] at HE
    clear HQ HA a0 a1 a2 a3 a4
    have HA := Lib.hid HA1
    clear HA1
    obtain ⟨a0, a1, a2, a3, a4⟩ := HA.out.cells
    cases q
    case true =>
      go_wp2
      go_ret
      exact ⟨ret_bool (by rw [HE.out]; rfl), HA.out.below⟩
    case false =>
      rw [if_neg (by simp)] at HE
      go_upto_region 3 with fail
      go_cut [37] (fun v wc => ∃ q, v = .bool q ∧ Aside (q = (!itemF t.field && !itemF t.other)) ∧ Aside (EvalAt w t X wc))
      case first =>
        cases i1 : itemF t.field
        case false =>
          go_wp2_with (first
            | (go_at_call_of 67 (Value.int IntKind.i64 t.field); refine (c_rofItems t.field _).mono ?_; rintro e w' ⟨rfl, rfl⟩)
            | (go_at_call_of 67 (Value.int IntKind.i64 t.other); refine (c_rofItems t.other _).mono ?_; rintro e w' ⟨rfl, rfl⟩))
          all_goals go_meet
          all_goals exact ⟨_, rfl, (show _ = _ from by simp [i1]), HA.out⟩
        case true =>
          go_wp2_with (first
            | (go_at_call_of 67 (Value.int IntKind.i64 t.field); refine (c_rofItems t.field _).mono ?_; rintro e w' ⟨rfl, rfl⟩))
          all_goals go_meet
          all_goals exact ⟨_, rfl, (show _ = _ from by simp [i1]), HA.out⟩
      case rest =>
        obtain ⟨q, rfl, HQ, HA1⟩ := hcut
        rw [← show q = _ from HQ] at HE
        clear HQ HA a0 a1 a2 a3 a4
        have HA := Lib.hid HA1
        clear HA1
        obtain ⟨a0, a1, a2, a3, a4⟩ := HA.out.cells
        cases q
        case true =>
          rw [if_pos rfl] at HE
          go_upto_region 4 with fail
          go_wp2_with (refine wpList_load_row (by rfl) 38 _ (by rfl) (w.heap.size + 1) (by rfl) 38 X.vs (0, 0) _ HA.out.xb Tryz.underlying38 rfl (by kernel_rfl) ?_)
          go_at_call 68
          refine (c_rone t X itemZ _).mono ?_
          rintro e w' ⟨rfl, hb'⟩
          go_wp2
          go_ret
          exact ⟨ret_bool HE.out.symm, (HA.out.step hb').below⟩
        case false =>
          rw [if_neg (by simp)] at HE
          have hl1 := HI.out.1
          clear a0 a1 a2 a3 a4
          go_wp2
          go_loopg [5] X.items.length (fun gg s5 wr => ∃ k : Nat, k ≤ X.items.length ∧ X.items.length - k ≤ gg ∧ s5 = .int .i64 k ∧ Aside (X.items.any (itemHit t X) = (X.items.drop k).any (itemHit t X)) ∧ Aside (EvalAt w t X wr))
          case atStart => exact ⟨0, Nat.zero_le _, by omega, rfl, rfl, HA.out⟩
          case round =>
            clear HA
            obtain ⟨k, hk, hg, rfl, HT, HA1⟩ := hrel
            have HA := Lib.hid HA1
            clear HA1
            have x23 := cell_of_block HA.out.xb 23
            simp at x23
            by_cases hlt : k < X.items.length
            · obtain ⟨b, o, ha, hb, d0, d1, d2, d3, d4, d5, d6, d7, d8, d9, d10, d11, d12⟩ := HI.out.at HA.out.below k hlt
              have hs := any_drop (itemHit t X) X.items k hlt
              generalize X.items[k] = x at d0 d1 d2 d3 d4 d5 d6 d7 d8 d9 d10 d11 d12 hs
              have HS := Lib.hid hs
              have HAA := Lib.hid ha
              clear hs
              have hl2 : (k : Int) < (X.items.length : Int) := by omega
              obtain ⟨a0, a1, a2, a3, a4⟩ := HA.out.cells
              rw [ha] at x23
              clear ha
              have HD := Lib.hid (show EvalAt w t X wr.drew from ⟨pw_drew HA.out.below, HA.out.tb, HA.out.xb⟩)
              cases hf : fileEq x.fd x.fi 0 0
              case true =>
                have HN := Lib.hid (show X.items.any (itemHit t X) = (X.items.drop (k + 1)).any (itemHit t X) from by rw [HT, HS.out]; simp [itemHit, hf])
                go_upto_region 8 with fail
                go_quiet (fail)
                go_wp2
                go_roundg (gk - 1)
                case measure => omega
                case rel => exact ⟨k + 1, by omega, by omega, by go_num, HN.out, ⟨pw_drewN HA.out.below _, HA.out.tb, HA.out.xb⟩⟩
              case false =>
                have hcall := fun W => c_rone t X x W
                go_upto_region 8 with fail
                go_still_tail 16, (by kernel_rfl)
                refine still_load_row (by rfl) 38 _ (by rfl) (w.heap.size + 1) (by rfl) 38 X.vs (0, 0) _ HA.out.xb Tryz.underlying38 rfl (by kernel_rfl) ?_
                repeat still_step
                refine wpStill_nil ?_
                change wpList _ _ _ _ _ wr.drew
                generalize wr.drew = w2 at HD ⊢
                cases ho : oneB t X x
                case true =>
                  have HC := Lib.hid (fun W => (ho ▸ c_rone t X x W : Calls Tryz.prog 68 #[t.v, X.v, x.v] W (HoldsPost W true)))
                  clear hcall
                  have HY := Lib.hid (show evalR t X = true from by rw [HE.out, HT, HS.out]; simp [itemHit, hf, ho])
                  go_wp2_with (go_at_call 68; refine (HC.out w2).mono ?_; rintro e w3 ⟨rfl, hb3⟩)
                  go_ret
                  exact ⟨ret_bool HY.out.symm, (HD.out.step hb3).below⟩
                case false =>
                  have HC := Lib.hid (fun W => (ho ▸ c_rone t X x W : Calls Tryz.prog 68 #[t.v, X.v, x.v] W (HoldsPost W false)))
                  clear hcall
                  have HN := Lib.hid (show X.items.any (itemHit t X) = (X.items.drop (k + 1)).any (itemHit t X) from by rw [HT, HS.out]; simp [itemHit, hf, ho])
                  go_wp2_with (go_at_call 68; refine (HC.out w2).mono ?_; rintro e w3 ⟨rfl, hb3⟩)
                  go_roundg (gk - 1)
                  case measure => omega
                  case rel => exact ⟨k + 1, by omega, by omega, by go_num, HN.out, HD.out.step hb3⟩
            · go_wp2
              go_ret
              exact ⟨ret_bool (by rw [HE.out, HT, List.drop_of_length_le (by omega)]; rfl), HA.out.below⟩
end Go.Proofs.YtnbfenapnfbmeaaGreat
/- Plain law: the reference's evaluation of tests answers as the program's. -/
set_option linter.unusedSimpArgs false
set_option linter.unusedVariables false
namespace Go.Proofs.YtnbfenapnfbmeaaGreat
open Go.RowKit
theorem allowed_sub (l f : Int) (h : allowed l f = true) : allowed 3 f = true ∨ l = 5 := by
  by_cases h5 : l = 5
  · exact .inr h5
  left
  simp only [allowed] at h
  repeat' split at h
  all_goals simp at h
  all_goals (simp [allowed]; simp_all)
  all_goals omega
theorem check_mono (t : Test) (l m : Int) (h : testCheck t l = 0) (hs : ∀ f, allowed l f = true → allowed m f = true) : testCheck t m = 0 := by
  obtain ⟨h1, h2⟩ := check_num t l h
  have e : ∀ k, allowed k t.field = true → (t.other = 0 ∨ (allowed k t.other = true ∧ compared t.other = true ∧ compared t.field = true)) →
      testCheck t k = (if t.op < 1 || t.op > 8 || t.op > 2 && (isText t.field || t.other != 0) then 121
        else if t.other != 0 && (t.num != 0 || !(t.text.toList.isEmpty)) then 122
        else if t.other == 0 && isText t.field && (t.num != 0 || t.text.toList.isEmpty || decide (t.text.size > 640)) || !isText t.field && !(t.text.toList.isEmpty) then 122
        else 0) := by
    intro k g1 g2
    unfold testCheck
    rw [if_neg]
    rcases g2 with g2 | ⟨g2, g3, g4⟩
    · simp [g1, g2]
    · simp [g1, g2, g3, g4]
  rw [e l h1 h2] at h
  rw [e m (hs _ h1) (h2.imp id (fun ⟨a, b, c⟩ => ⟨hs _ a, b, c⟩))]
  exact h
theorem sound_eq (t : Test) : soundUp t 5 = !checkBad t := by
  have h1 : testCheck t 1 = 0 → testCheck t 3 = 0 := fun h => check_mono t 1 3 h (fun f hf => (allowed_sub 1 f hf).resolve_right (by decide))
  have h2 : testCheck t 2 = 0 → testCheck t 3 = 0 := fun h => check_mono t 2 3 h (fun f hf => (allowed_sub 2 f hf).resolve_right (by decide))
  have h4 : testCheck t 4 = 0 → testCheck t 3 = 0 := fun h => check_mono t 4 3 h (fun f hf => (allowed_sub 4 f hf).resolve_right (by decide))
  have e : soundUp t 5 = (testCheck t 1 == 0 || (testCheck t 2 == 0 || (testCheck t 3 == 0 || (testCheck t 4 == 0 || (testCheck t 5 == 0 || false))))) := rfl
  rw [e, checkBad]
  by_cases h3 : testCheck t 3 = 0
  · simp [h3]
  · rw [beq_eq_false_iff_ne.2 (mt h1 h3), beq_eq_false_iff_ne.2 (mt h2 h3), beq_eq_false_iff_ne.2 h3, beq_eq_false_iff_ne.2 (mt h4 h3)]
    have e3 : (testCheck t 3 != 0) = true := by simp [h3]
    rw [e3]
    cases h5 : testCheck t 5 == 0 <;> simp [bne, h5]
theorem num_eq (f : Int) (X : Ctx) (it : Item) (h : 1 ≤ f ∧ f ≤ 22) (ht : isText f = false) (hi : itemF f = false) : numOf f.toNat X = (numR f X it, hasB f X) := by
  have : f = 1 ∨ f = 2 ∨ f = 3 ∨ f = 4 ∨ f = 5 ∨ f = 6 ∨ f = 7 ∨ f = 8 ∨ f = 9 ∨ f = 10 ∨ f = 11 ∨ f = 12 ∨ f = 13 ∨ f = 14 ∨ f = 15 ∨ f = 16 ∨ f = 17 ∨ f = 18 ∨ f = 19 ∨ f = 20 ∨ f = 21 ∨ f = 22 := by omega
  rcases this with rfl | rfl | rfl | rfl | rfl | rfl | rfl | rfl | rfl | rfl | rfl | rfl | rfl | rfl | rfl | rfl | rfl | rfl | rfl | rfl | rfl | rfl
  all_goals (first | (exact absurd ht (by decide)) | (exact absurd hi (by decide)) | rfl | skip)
  all_goals trace_state
  all_goals sorry
theorem item_eq (f : Int) (X : Ctx) (it : Item) (h : itemF f = true) : itemOf f.toNat it = numR f X it ∧ hasB f X = (X.phase == 2) := by
  simp [itemF] at h
  have : f = 17 ∨ f = 18 ∨ f = 19 ∨ f = 20 ∨ f = 21 := by omega
  rcases this with rfl | rfl | rfl | rfl | rfl
  all_goals exact ⟨rfl, rfl⟩
theorem val_eq (f : Int) (X : Ctx) (it : Item) (h : 1 ≤ f ∧ f ≤ 22) (ht : isText f = false) : valOf f X it = (numR f X it, hasB f X && (!itemF f || !fileEq it.fd it.fi 0 0)) := by
  unfold valOf
  cases hi : itemF f with
  | true =>
    obtain ⟨h1, h2⟩ := item_eq f X it hi
    rw [if_pos rfl, h1, h2]
    simp
  | false =>
    rw [if_neg (by simp), num_eq f X it h ht hi]
    simp
theorem holds_eq (t : Test) (X : Ctx) (it : Item) (h : NumTest t) : holdsB t X it = ((hasB t.field X && (t.other == 0 || hasB t.other X)) && ((!itemF t.field && (t.other == 0 || !itemF t.other) || !fileEq it.fd it.fi 0 0) && oneB t X it)) := by
  obtain ⟨⟨h1, h2, h3⟩, ho⟩ := h
  unfold holdsB otherOf oneB
  rw [val_eq t.field X it ⟨h1, h2⟩ h3, h3, if_neg (show ¬ (false = true) by simp)]
  rcases ho with ho | ⟨o1, o2, o3⟩
  · simp [ho, Bool.and_assoc]
  · have hz : t.other ≠ 0 := by omega
    rw [val_eq t.other X it ⟨o1, o2⟩ o3]
    simp only [beq_iff_eq, hz, if_false, bne_iff_ne, ne_eq, not_false_eq_true, if_true, beq_eq_false_iff_ne.2 hz, Bool.false_or]
    cases hasB t.field X <;> cases hasB t.other X <;> cases itemF t.field <;> cases itemF t.other <;> cases fileEq it.fd it.fi 0 0 <;> simp
theorem eval_eq (t : Test) (X : Ctx) : evalR t X = evalB t X := by
  unfold evalR evalB
  rw [sound_eq]
  cases hb : checkBad t with
  | true => simp
  | false =>
    simp only [Bool.not_false, Bool.not_true, Bool.false_or, Bool.false_eq_true, if_false]
    cases ht : isText t.field with
    | true =>
      obtain ⟨l, hl⟩ : ∃ l, testCheck t l = 0 := by
        simp [checkBad] at hb
        by_cases h3 : testCheck t 3 = 0
        · exact ⟨_, h3⟩
        · exact ⟨_, hb h3⟩
      obtain ⟨_, ho⟩ := check_num t l hl
      have ho : t.other = 0 := by
        rcases ho with ho | ⟨_, _, h3⟩
        · exact ho
        · rw [compared_num _ h3] at ht; cases ht
      have hf : t.field = 13 ∨ t.field = 14 := by simp [isText] at ht; exact ht
      unfold oneB
      rcases hf with hf | hf
      · simp [ho, hf, hasB, itemF, isText, textOf]
      · simp [ho, hf, hasB, itemF, isText, textOf]
    | false =>
      have hn := num_of_check t hb ht
      obtain ⟨⟨h1, h2, h3⟩, ho⟩ := id hn
      simp only [Bool.false_eq_true, if_false]
      have hH := fun it => holds_eq t X it hn
      have hc1 : (!hasB t.field X || (t.other != 0 && !hasB t.other X)) = !(hasB t.field X && (t.other == 0 || hasB t.other X)) := by
        cases hasB t.field X <;> cases hasB t.other X <;> cases hz : t.other == 0 <;> simp [bne, hz]
      rw [hc1]
      cases hc : (hasB t.field X && (t.other == 0 || hasB t.other X)) with
      | false =>
        have hf : ∀ it, holdsB t X it = false := fun it => by rw [hH, hc]; rfl
        simp only [Bool.not_false, if_true, hf]
        split
        · rfl
        · exact (List.any_eq_false.2 (fun x _ => by simp [hf])).symm
      | true =>
        simp only [Bool.not_true, Bool.false_eq_true, if_false]
        cases hi : (!itemF t.field && !itemF t.other) with
        | true =>
          simp only [if_true]
          rw [hH, hc]
          simp only [Bool.and_eq_true, Bool.not_eq_true'] at hi
          simp [hi.1, hi.2]
        | false =>
          simp only [Bool.false_eq_true, if_false]
          have hf : ∀ it, holdsB t X it = itemHit t X it := fun it => by
            rw [hH, hc]
            unfold itemHit
            have : (!itemF t.field && (t.other == 0 || !itemF t.other)) = false := by
              rcases ho with ho | ho
              · rw [ho] at hi ⊢
                have : itemF 0 = false := by decide
                rw [this] at hi
                simpa using hi
              · rw [show (t.other == 0) = false from beq_eq_false_iff_ne.2 (by omega)]
                simpa using hi
            rw [this]
            simp
          rw [funext hf]
end Go.Proofs.YtnbfenapnfbmeaaGreat
