/- The law's small example. -/
import Derived.Test.YtnbfenapnfbmeaaGreatG5
import Derived.Test.YtnbfenapnfbmeaaGreatF4
import Derived.Deep.CutBlock
set_option linter.unusedSimpArgs false
set_option linter.unusedVariables false
namespace Go.Proofs.YtnbfenapnfbmeaaGreat
open Go.RowKit
def zb : ByteArray := ⟨#[]⟩
abbrev test0 : Test := ⟨3, 1, 0, ⟨#[]⟩, 0⟩
abbrev never (ta : Option Addr) : Rule := ⟨3, 2, 1, ta, 1, [test0], 0, ⟨#[]⟩, 0, ⟨#[]⟩⟩
abbrev always : Rule := ⟨3, 1, 1, none, 0, [], 0, ⟨#[]⟩, 0, ⟨#[]⟩⟩
abbrev ctx0 (uid : Int) : Ctx := { phase := 2, pid := 0, ppid := 0, uid := uid, euid := 0, gid := 0, egid := 0, auid := 0, ses := 0, cd := 0, ci := 0, comm := ⟨#[]⟩, exe := ⟨#[]⟩, oa := none, on := 0, oc := 0, audited := false, call := 0, a0 := 0, a1 := 0, a2 := 0, a3 := 0, pa := none, pn := 0, pc := 0, ra := none, rn := 0, rc := 0, exit := 0, ia := none, ic := 0, items := [], type := 0 }
theorem add_awake (ta : Option Addr) : addCode [always] (never ta) = 0 := by kernel_rfl
theorem first_p (rs rs' : List Rule) (list : Int) (hs : List Bool) (X : Ctx) (k : Nat) (h : rs.map Rule.p = rs'.map Rule.p) : findIx (firstP list hs X) k rs = findIx (firstP list hs X) k rs' := by
  induction rs generalizing rs' k with
  | nil =>
    cases rs' with
    | nil => rfl
    | cons y l => cases h
  | cons x l ih =>
    cases rs' with
    | nil => cases h
    | cons y m =>
      simp only [List.map_cons, List.cons.injEq] at h
      have hp : firstP list hs X k x = firstP list hs X k y := by
        have h1 := h.1
        obtain ⟨a1, a2, a3, a4, a5, a6, a7, a8, a9, a10⟩ := x
        obtain ⟨b1, b2, b3, b4, b5, b6, b7, b8, b9, b10⟩ := y
        simp only [Rule.p, PRule.mk.injEq] at h1
        obtain ⟨rfl, rfl, rfl, rfl, rfl, rfl, rfl, rfl⟩ := h1
        rfl
      rw [findIx, findIx, hp, ih m (k + 1) h.2]
theorem first0 : firstB [never none, always] 3 [] (ctx0 0) = 0 := by kernel_rfl
theorem first5 : firstB [never none, always] 3 [] (ctx0 5) = 1 := by kernel_rfl
theorem first_awake (rs : List Rule) (h : rs.map Rule.p = addList [always] (never none) true) (u : Int) : firstB rs 3 [] (ctx0 u) = firstB [never none, always] 3 [] (ctx0 u) := by
  refine first_p rs [never none, always] 3 [] (ctx0 u) 0 ?_
  rw [h]
  unfold addList
  rw [if_pos (add_awake none)]
  rfl
theorem wpList_load_rowG {P : Program} {ops : Array Oper} {rest : List Oper} {o : Oper} {a : Act} {w : World} {Q : Exit → Act → World → Prop} (hw : Region.wanted o (yielded ops a.tmps) = true) (ty : TypeId) (x : Operand) (ho : o.op = .load ty x)
    (g : Nat) (hx : a.eval x = .pointer (some ⟨g, 0, none⟩)) (t : TypeId) (cs : Array Value) (fr : Nat × Nat) (d : TypeDesc) (hg : w.heap[g]? = some (.cells cs t fr))
    (hu : P.underlying ty = some d) (hd : (match d with | .struct _ | .array _ _ => true | _ => false) = true) (hi : (P.info? ty).map (·.size) = some cs.size)
    (h : wpList P ops Q rest (a.put o.dst (.agg cs)) w) : wpList P ops Q (o :: rest) a w := by
  rw [wpList, if_pos hw]
  exact .inl (wp_load_row ty x ho g hx t cs fr d hg hu hd hi h)
theorem row_one {α : Type} {w : World} {E : TypeId} {sz b : Nat} {enc : α → List Value} {x : α} (h : w.heap[b]? = some (.cells (enc x).toArray E)) : RowAt w E sz enc (some ⟨b, 0, none⟩) [x] := by
  intro j hj
  have : j = 0 := by simpa using hj
  subst this
  exact ⟨b, 0, _, (0, 0), rfl, h, fun i v hv => by simpa using hv⟩
theorem always_at (w : World) : RuleAt w always := ⟨⟨Nat.zero_le _, fun j hj => absurd hj (Nat.not_lt_zero _)⟩, fun _ => rfl, Nat.le_refl _, ⟨Nat.zero_le _, by simp [ByteArray.toList_eq]⟩, Nat.zero_le _⟩
theorem never_at (w : World) (b : Nat) (h : w.heap[b]? = some (testBox test0)) : RuleAt w (never (some ⟨b, 0, none⟩)) := ⟨⟨show 1 ≤ 1000000 by decide, row_one h⟩, fun h => (by cases h), Nat.le_refl _, ⟨Nat.zero_le _, by simp [ByteArray.toList_eq]⟩, Nat.zero_le _⟩
theorem rules_one (w : World) (b : Nat) (h : w.heap[b]? = some (ruleBox always)) : RulesAt w (some ⟨b, 0, none⟩) [always] := ⟨show 1 ≤ 1000000 by decide, row_one h, fun r hr => by rw [List.mem_singleton.1 hr]; exact always_at w⟩
set_option maxRecDepth 100000 in
set_option maxHeartbeats 4000000 in
theorem c_awake (w : World) : Calls Tryz.prog 16 #[] w (HoldsPost w true) := by
  go_enter Tryz.func16, Tryz.ntmps16
  go_upto_region 3 with fail
  have h1 := heap_new w (testBox test0)
  have h2 := heap_new (w.alloc (testBox test0)) (ruleBox (never (some ⟨w.heap.size, 0, none⟩)))
  have h3 := heap_new ((w.alloc (testBox test0)).alloc (ruleBox (never (some ⟨w.heap.size, 0, none⟩)))) (ruleBox always)
  rw [World.size_alloc] at h2
  rw [World.size_alloc, World.size_alloc] at h3
  have hb := (((Below.refl w.heap.size w).alloc (Nat.le_refl _) (testBox test0)).alloc (by simp) (ruleBox (never (some ⟨w.heap.size, 0, none⟩)))).alloc (by simp; omega) (ruleBox always)
  have h1' := (Below.heap_alloc _ (ruleBox always) w.heap.size (by simp; omega)).trans ((Below.heap_alloc _ (ruleBox (never (some ⟨w.heap.size, 0, none⟩))) w.heap.size (by simp)).trans h1)
  have h2' := (Below.heap_alloc _ (ruleBox always) (w.heap.size + 1) (by simp)).trans h2
  change Code.wp _ _ _ _ (((w.alloc (testBox test0)).alloc (ruleBox (never (some ⟨w.heap.size, 0, none⟩)))).alloc (ruleBox always))
  obtain ⟨W0, hW0⟩ : ∃ W0, W0 = ((w.alloc (testBox test0)).alloc (ruleBox (never (some ⟨w.heap.size, 0, none⟩)))).alloc (ruleBox always) := ⟨_, rfl⟩
  rw [← hW0] at h1' h2' h3 hb ⊢
  clear h1 h2 hW0
  have HB := Lib.hid hb
  have H1 := Lib.hid h1'
  have H2 := Lib.hid h2'
  have H3 := Lib.hid h3
  have c1 := cell_of_block h2'
  have c2 := cell_of_block h3
  have a0 := c1 0
  have a1 := c1 1
  have a2 := c1 2
  have a3 := c1 3
  have a4 := c1 4
  have a5 := c1 5
  have a6 := c1 6
  have a7 := c1 7
  have d0 := c2 0
  have d1 := c2 1
  have d2 := c2 2
  have d3 := c2 3
  have d4 := c2 4
  have d5 := c2 5
  have d6 := c2 6
  have d7 := c2 7
  simp at a0 a1 a2 a3 a4 a5 a6 a7 d0 d1 d2 d3 d4 d5 d6 d7
  clear c1 c2 h1' h2' h3 hb
  have hadd := c_padd (some ⟨W0.heap.size, 0, none⟩) 1 [always] (never (some ⟨w.heap.size, 0, none⟩)) true (W0.alloc (ruleBox always)) (rules_one _ _ (heap_new _ _)) (Nat.le_refl _) (fun h => by cases h) (never_at _ _ ((Below.heap_alloc _ _ _ (lt_of_some H1.out)).trans H1.out))
  rw [add_awake] at hadd
  have l1 : w.heap.size + 1 < W0.heap.size := lt_of_some H2.out
  go_upto_region 4 with (go_at_call 18; refine hadd.mono ?_; rintro e w1 ⟨v, rs, rfl, ho, hp, hb1⟩; obtain ⟨av, cv, rfl, _, hat⟩ := ho.shape; have HAT := Lib.hid hat; have HP := Lib.hid hp; have HB1 := Lib.hid ((HB.out.alloc HB.out.size (ruleBox always)).trans (hb1.mono (by simp; exact Nat.le_succ_of_le HB.out.size))); clear ho hp hb1)
  clear a0 a1 a2 a3 a4 a5 a6 a7 d0 d1 d2 d3 d4 d5 d6 d7 hadd
  have hb4 := HB1.out
  clear hat
  go_cut [5, 18] (fun s5 s18 wc => ∃ p, s5 = .pointer (some ⟨p, 0, none⟩) ∧ Aside (wc.heap[p]? = some (ctxBox (ctx0 0))) ∧ Aside (RulesAt wc av rs) ∧ Aside (Below w.heap.size w wc))
  case first =>
    go_wp2_with (first
      | (refine wpList_store_row (by rfl) 38 _ _ (by rfl) _ (ctx0 0).vs (by rfl) (by rfl) 38 _ (heap_new _ _) (by kernel_rfl) (by rfl) (by kernel_rfl) ?_; rw [setRow_new]))
    go_meet
    exact ⟨_, rfl, heap_new _ _, HAT.out.below (B := w1.heap.size) ((Below.refl _ _).alloc (Nat.le_refl _) _) (Nat.le_refl _), hb4.alloc hb4.size _⟩
  case rest =>
    obtain ⟨p5, rfl, h5, hat5, hb5⟩ := hcut
    clear hb4
    have H5 := Lib.hid h5
    have HAT5 := Lib.hid hat5
    have HB5 := Lib.hid hb5
    clear h5 hat5 hb5 HAT
    go_upto_region 5 with fail
    go_cut [6, 19, 20] (fun s6 s19 s20 wd => ∃ p, s6 = .pointer (some ⟨p, 0, none⟩) ∧ Aside (wd.heap[p]? = some (ctxBox (ctx0 5))) ∧ Aside (wd.heap[p5]? = some (ctxBox (ctx0 0))) ∧ Aside (RulesAt wd av rs) ∧ Aside (Below w.heap.size w wd))
    case first =>
      go_wp2_with (first
        | (refine wpList_store_row (by rfl) 38 _ _ (by rfl) _ (ctx0 5).vs (by rfl) (by rfl) 38 _ (heap_new _ _) (by kernel_rfl) (by rfl) (by kernel_rfl) ?_; rw [setRow_new]))
      go_meet
      exact ⟨_, rfl, heap_new _ _, (Below.heap_alloc _ _ _ (lt_of_some H5.out)).trans H5.out, RulesAt.below HAT5.out ((Below.refl wc.heap.size _).alloc (Nat.le_refl _) _) (Nat.le_refl _), Below.alloc HB5.out HB5.out.size _⟩
    case rest =>
      obtain ⟨p6, rfl, h6, h5, hat6, hb6⟩ := hcut
      have HZ0 := Lib.hid (first_awake rs HP.out 0)
      have HZ5 := Lib.hid (first_awake rs HP.out 5)
      have hf0 := c_first av cv rs 3 none 0 [] (ctx0 0) wc hat6 ⟨Nat.zero_le _, fun j hj => absurd hj (Nat.not_lt_zero _)⟩ ⟨Nat.zero_le _, fun j hj => absurd hj (Nat.not_lt_zero _)⟩
      have hf5 := fun W (hW : Below wc.heap.size wc W) => c_first av cv rs 3 none 0 [] (ctx0 5) W (RulesAt.below hat6 hW (Nat.le_refl _)) ⟨Nat.zero_le _, fun j hj => absurd hj (Nat.not_lt_zero _)⟩ ⟨Nat.zero_le _, fun j hj => absurd hj (Nat.not_lt_zero _)⟩
      rw [HZ0.out, first0] at hf0
      simp only [HZ5.out, first5] at hf5
      have H6 := Lib.hid (And.intro h6 h5)
      have HB6 := Lib.hid hb6
      have HF0 := Lib.hid hf0
      have HF5 := Lib.hid hf5
      clear h6 h5 hat6 hb6 hf0 hf5
      go_upto_region 6 with fail
      go_wp2_with (first
        | (refine wpList_load_rowG (by rfl) 38 _ (by rfl) p5 (by rfl) 38 (ctx0 0).vs (0, 0) _ H6.out.2 Tryz.underlying38 rfl (by kernel_rfl) ?_)
        | (refine wpList_load_rowG (by rfl) 38 _ (by rfl) p6 (by rfl) 38 (ctx0 5).vs (0, 0) _ H7.out Tryz.underlying38 rfl (by kernel_rfl) ?_)
        | (go_at_call 14; refine (HF5.out _ HB7.out).mono ?_; rintro e w7 ⟨rfl, hb8⟩; have HB8 := Lib.hid hb8)
        | (go_at_call 14; refine HF0.out.mono ?_; rintro e w7 ⟨rfl, hb7⟩; have HB7 := Lib.hid hb7; have H7 := Lib.hid ((hb7.block _ (lt_of_some H6.out.1)).trans H6.out.1)))
      go_ret
      exact ⟨rfl, Below.trans HB6.out ((HB7.out.trans (hb8.mono HB7.out.size)).mono (Below.size HB6.out))⟩
end Go.Proofs.YtnbfenapnfbmeaaGreat
