/- Contracts: a rule matches a context; the first rule of a list that matches (the program). -/
import Derived.Test.YtnbfenapnfbmeaaGreatG4
import Derived.Laws.Rows
import Derived.StillTailTactics
set_option linter.unusedSimpArgs false
set_option linter.unusedVariables false
namespace Go.Proofs.YtnbfenapnfbmeaaGreat
open Go.RowKit
theorem still_load_row {P : Program} {ops : Array Oper} {rest : List Oper} {o : Oper} {a : Act} {w : World} {Q : Act → Prop} (hw : Region.wanted o (yielded ops a.tmps) = true) (ty : TypeId) (x : Operand) (ho : o.op = .load ty x)
    (g : Nat) (hx : a.eval x = .pointer (some ⟨g, 0, none⟩)) (t : TypeId) (cs : Array Value) (fr : Nat × Nat) (d : TypeDesc) (hg : w.heap[g]? = some (.cells cs t fr))
    (hu : P.underlying ty = some d) (hd : (match d with | .struct _ | .array _ _ => true | _ => false) = true) (hi : (P.info? ty).map (·.size) = some cs.size)
    (h : wpStill P ops w Q rest (a.put o.dst (.agg cs))) : wpStill P ops w Q (o :: rest) a := by
  rw [wpStill, if_pos hw]
  unfold Oper.still execOp
  simp only [ho, hx, Instr.loadAt, Instr.sureAddr, Sem.run_bind, Sem.run_pure, Result.andThen_ok, run_loadVar_row w g t ty cs fr d hg hu hd hi]
  exact ⟨rfl, h⟩
def matchesB (r : Rule) (hit : Bool) (X : Ctx) : Bool := (r.calls == 0 || maskHas r.calls X.call) && (r.watch == 0 || hit) && !(r.tests.any (fun t => !evalB t X))
set_option maxRecDepth 100000 in
set_option maxHeartbeats 1000000 in
theorem c_matches1 (t : Test) (X : Ctx) (xb : Nat) (W : World) (hit : ItemsAt W X.ia X.items) (hxb : W.heap[xb]? = some (ctxBox X)) :
    Calls Tryz.prog 35 #[t.v, .pointer (some ⟨xb, 0, none⟩)] W (HoldsPost W (!evalB t X)) := by
  have hb0 := (Below.refl _ W).alloc (Nat.le_refl _) (testBox t)
  have hxb2 := (Below.heap_alloc W (testBox t) _ (lt_of_some hxb)).trans hxb
  have hcall := c_eval t X (W.alloc (testBox t)) (hit.below hb0 (Nat.le_refl _))
  have HB := Lib.hid hb0
  have HX := Lib.hid hxb2
  clear hit hxb hxb2 hb0
  go_enter Tryz.func35, Tryz.ntmps35
  go_wp2_with (first
    | (refine wpList_load_row (by rfl) 38 _ (by rfl) xb (by rfl) 38 X.vs (0, 0) _ HX.out Tryz.underlying38 rfl (by kernel_rfl) ?_)
    | (go_at_call 36; refine hcall.mono ?_; rintro e w' ⟨rfl, hb'⟩))
  go_ret
  exact ⟨rfl, HB.out.trans (hb'.mono (by simp))⟩
/-- The boxes of 'Matches' in a later world. -/
structure MatchAt (w : World) (r : Rule) (X : Ctx) (W : World) : Prop where
  below : Below w.heap.size w W
  rb : W.heap[w.heap.size]? = some (ruleBox r)
  xb : W.heap[w.heap.size + 1]? = some (ctxBox X)
theorem MatchAt.new (w : World) (r : Rule) (X : Ctx) : MatchAt w r X ((w.alloc (ruleBox r)).alloc (ctxBox X)) := by
  have h1 := heap_new w (ruleBox r)
  have h2 := heap_new (w.alloc (ruleBox r)) (ctxBox X)
  rw [World.size_alloc] at h2
  refine ⟨((Below.refl _ w).alloc (Nat.le_refl _) _).alloc (by simp) _, ?_, h2⟩
  rw [Below.heap_alloc _ _ _ (by simp)]; exact h1
set_option maxRecDepth 100000 in
set_option maxHeartbeats 2000000 in
theorem c_matches (r : Rule) (hit : Bool) (X : Ctx) (w : World) (hr : RuleAt w r) (hi : ItemsAt w X.ia X.items) :
    Calls Tryz.prog 12 #[r.v, .bool hit, X.v] w (HoldsPost w (matchesB r hit X)) := by
  have hA := MatchAt.new w r X
  obtain ⟨W, hW⟩ : ∃ W, W = (w.alloc (ruleBox r)).alloc (ctxBox X) := ⟨_, rfl⟩
  rw [← hW] at hA
  have htests : Calls Tryz.prog 34 #[.slice r.ta r.tests.length r.tc, .func (.func 35) #[] #[.pointer (some ⟨w.heap.size + 1, 0, none⟩)]] W (HoldsPost W (r.tests.any (fun t => !evalB t X))) := by
    refine c_containsTest r.ta r.tc r.tests 35 #[.pointer (some ⟨w.heap.size + 1, 0, none⟩)] (enters_of Tryz.func35 (by kernel_rfl) rfl) (fun t => !evalB t X) W (hr.1.below hA.below (Nat.le_refl _)) (fun W2 t h2 _ => ?_)
    exact c_matches1 t X _ W2 ((hi.below hA.below (Nat.le_refl _)).below h2 (Nat.le_refl _)) ((h2.block _ (lt_of_some hA.xb)).trans hA.xb)
  have HTS := Lib.hid htests
  have HA := Lib.hid hA
  have HM := Lib.hid (show matchesB r hit X = ((r.calls == 0 || maskHas r.calls X.call) && (r.watch == 0 || hit) && !(r.tests.any (fun t => !evalB t X))) from rfl)
  have k0 := cell_of_block hA.rb 2
  have k1 := cell_of_block hA.rb 3
  have k2 := cell_of_block hA.rb 4
  have k3 := cell_of_block hA.xb 15
  simp at k0 k1 k2 k3
  clear hr hi htests hA
  generalize r.tests.any (fun t => !evalB t X) = b at HTS HM
  go_enter Tryz.func12, Tryz.ntmps12
  go_upto_region 1 with fail
  rw [← hW]
  clear hW
  have hts := HTS.out
  go_wp2_with (first
    | (go_at_call 33; refine (c_mhas _ _ _).mono ?_; rintro e w' ⟨rfl, rfl⟩)
    | (go_at_call 34; refine hts.mono ?_; rintro e w' ⟨rfl, hb'⟩))
  all_goals
    go_ret
    refine ⟨ret_bool ?_, ?_⟩
    · rw [HM.out]
      simp [*]
    · first | exact HA.out.below.trans (hb'.mono HA.out.below.size) | exact HA.out.below
def HitsAt (w : World) (a : Option Addr) (hs : List Bool) : Prop := hs.length ≤ 1000000 ∧ RowAt w 4 1 (fun b => [Value.bool b]) a hs
theorem HitsAt.below {w w' : World} {B : Nat} {a : Option Addr} {xs : List Bool} (h : HitsAt w a xs) (hb : Below B w w') (hB : w.heap.size ≤ B) : HitsAt w' a xs := ⟨h.1, h.2.keep (Keeps.below hb hB)⟩
/-- What the closure of 'First' reads. -/
structure FirstAt (W : World) (list : Int) (ha : Option Addr) (hc : Nat) (hs : List Bool) (X : Ctx) (lb hb xb : Nat) : Prop where
  l : W.heap[lb]? = some (.cells #[.int .i64 list] 3)
  h : W.heap[hb]? = some (.cells #[.slice ha hs.length hc] 40)
  x : W.heap[xb]? = some (ctxBox X)
  hits : HitsAt W ha hs
  items : ItemsAt W X.ia X.items
theorem FirstAt.step {W W' : World} {list : Int} {ha : Option Addr} {hc : Nat} {hs : List Bool} {X : Ctx} {lb hb xb : Nat} (h : FirstAt W list ha hc hs X lb hb xb) (k : Below W.heap.size W W') : FirstAt W' list ha hc hs X lb hb xb :=
  ⟨(k.block _ (lt_of_some h.l)).trans h.l, (k.block _ (lt_of_some h.h)).trans h.h, (k.block _ (lt_of_some h.x)).trans h.x, h.hits.below k (Nat.le_refl _), h.items.below k (Nat.le_refl _)⟩
def firstP (list : Int) (hs : List Bool) (X : Ctx) (k : Nat) (r : Rule) : Bool := r.list == list && matchesB r (hs.getD k false) X
set_option maxRecDepth 100000 in
set_option maxHeartbeats 4000000 in
theorem c_first1 (k : Nat) (r : Rule) (list : Int) (ha : Option Addr) (hc : Nat) (hs : List Bool) (X : Ctx) (lb hb xb : Nat) (W : World) (hr : RuleAt W r) (hF : FirstAt W list ha hc hs X lb hb xb) :
    Calls Tryz.prog 40 #[.int .i64 k, r.v, .pointer (some ⟨lb, 0, none⟩), .pointer (some ⟨hb, 0, none⟩), .pointer (some ⟨xb, 0, none⟩)] W (HoldsPost W (firstP list hs X k r)) := by
  have hb0 := (Below.refl _ W).alloc (Nat.le_refl _) (ruleBox r)
  obtain ⟨W1, hW1⟩ : ∃ W1, W1 = W.alloc (ruleBox r) := ⟨_, rfl⟩
  rw [← hW1] at hb0
  have hF1 := hF.step hb0
  have hbox : W1.heap[W.heap.size]? = some (ruleBox r) := by rw [hW1]; exact heap_new _ _
  have hm := fun hit => c_matches r hit X W1.drew (hr.below (pw_drew hb0) (Nat.le_refl _)) hF1.items
  have HB := Lib.hid hb0
  have HM := Lib.hid hm
  have HP := Lib.hid (show firstP list hs X k r = (r.list == list && matchesB r (hs.getD k false) X) from rfl)
  have r0 := cell_of_block hbox 0
  have r1 := cell_of_block hbox 1
  have r2 := cell_of_block hbox 2
  have r3 := cell_of_block hbox 3
  have r4 := cell_of_block hbox 4
  have r5 := cell_of_block hbox 5
  have r6 := cell_of_block hbox 6
  have r7 := cell_of_block hbox 7
  have l0 := cell_of_block hF1.l 0
  have h0 := cell_of_block hF1.h 0
  simp at r0 r1 r2 r3 r4 r5 r6 r7 l0 h0
  have HF := Lib.hid hF1
  clear hr hF hF1 hb0 hm hbox
  cases hq : r.list == list with
  | false =>
    go_enter Tryz.func40, Tryz.ntmps40
    go_wp2
    rw [← hW1]
    clear hW1
    go_quiet (fail)
    go_wp2
    go_ret
    exact ⟨ret_bool (by rw [HP.out, hq]; rfl), pw_drewN HB.out _⟩
  | true =>
    have hl1 := HF.out.hits.1
    by_cases hlt : k < hs.length
    · have hlt2 : (k : Int) < (hs.length : Int) := by omega
      obtain ⟨b, o, cs, fz, hae, hh, hcell⟩ := HF.out.hits.2 k hlt
      have kc : W1.cell? ⟨b, o + k, none⟩ = some (.bool hs[k]) := by
        rw [World.cell?]
        simp only [hh]
        have := hcell 0 _ rfl
        simpa using this
      subst hae
      have hgd : hs.getD k false = hs[k] := by simp [hlt]
      have HGD := Lib.hid hgd
      generalize hs[k] = hit at kc HGD
      clear hgd hcell hh
      go_enter Tryz.func40, Tryz.ntmps40
      go_wp2
      rw [← hW1]
      clear hW1
      go_still_tail 17, (by kernel_rfl)
      refine still_load_row (by rfl) 38 _ (by rfl) xb (by rfl) 38 X.vs (0, 0) _ HF.out.x Tryz.underlying38 rfl (by kernel_rfl) ?_
      refine wpStill_nil ?_
      change wpList _ _ _ _ _ W1.drew
      have hcall := HM.out hit
      clear r0 r1 r2 r3 r4 r5 r6 r7 l0 h0 kc
      have HB2 := Lib.hid (pw_drew HB.out)
      generalize W1.drew = w2 at hcall HB2 ⊢
      go_wp2_with (go_at_call 12; refine hcall.mono ?_; rintro e w' ⟨rfl, hb'⟩)
      go_ret
      exact ⟨ret_bool (by rw [HP.out, HGD.out, hq]; simp), HB2.out.trans (hb'.mono HB2.out.size)⟩
    · have hlt2 : ¬ (k : Int) < (hs.length : Int) := by omega
      have hgd : hs.getD k false = false := by rw [List.getD_eq_getElem?_getD, List.getElem?_eq_none (by omega)]; rfl
      have HGD := Lib.hid hgd
      clear hgd
      go_enter Tryz.func40, Tryz.ntmps40
      go_wp2
      rw [← hW1]
      clear hW1
      go_still_tail 17, (by kernel_rfl)
      refine still_load_row (by rfl) 38 _ (by rfl) xb (by rfl) 38 X.vs (0, 0) _ HF.out.x Tryz.underlying38 rfl (by kernel_rfl) ?_
      refine wpStill_nil ?_
      change wpList _ _ _ _ _ W1.drew
      have hcall := HM.out false
      clear r0 r1 r2 r3 r4 r5 r6 r7 l0 h0
      have HB2 := Lib.hid (pw_drew HB.out)
      generalize W1.drew = w2 at hcall HB2 ⊢
      go_wp2_with (go_at_call 12; refine hcall.mono ?_; rintro e w' ⟨rfl, hb'⟩)
      go_ret
      exact ⟨ret_bool (by rw [HP.out, HGD.out, hq]; simp), HB2.out.trans (hb'.mono HB2.out.size)⟩
/-- The first rule of a list that matches. -/
def firstB (rs : List Rule) (list : Int) (hs : List Bool) (X : Ctx) : Int := findIx (firstP list hs X) 0 rs
set_option maxRecDepth 100000 in
set_option maxHeartbeats 2000000 in
theorem c_first (a : Option Addr) (c : Nat) (rs : List Rule) (list : Int) (ha : Option Addr) (hc : Nat) (hs : List Bool) (X : Ctx) (w : World) (hl : RulesAt w a rs) (hh : HitsAt w ha hs) (hi : ItemsAt w X.ia X.items) :
    Calls Tryz.prog 14 #[.slice a rs.length c, .int .i64 list, .slice ha hs.length hc, X.v] w (fun e w' => e = .returned (.int .i64 (firstB rs list hs X)) ∧ Below w.heap.size w w') := by
  obtain ⟨W, hW⟩ : ∃ W, W = ((w.alloc (.cells #[.int .i64 list] 3)).alloc (.cells #[.slice ha hs.length hc] 40)).alloc (ctxBox X) := ⟨_, rfl⟩
  have h1 := heap_new w (.cells #[.int .i64 list] 3)
  have h2 := heap_new (w.alloc (.cells #[.int .i64 list] 3)) (.cells #[.slice ha hs.length hc] 40)
  have h3 := heap_new ((w.alloc (.cells #[.int .i64 list] 3)).alloc (.cells #[.slice ha hs.length hc] 40)) (ctxBox X)
  rw [World.size_alloc] at h2
  rw [World.size_alloc, World.size_alloc] at h3
  have hb : Below w.heap.size w W := by rw [hW]; exact (((Below.refl _ w).alloc (Nat.le_refl _) _).alloc (by simp) _).alloc (by simp; omega) _
  have hF : FirstAt W list ha hc hs X w.heap.size (w.heap.size + 1) (w.heap.size + 1 + 1) := by
    refine ⟨?_, ?_, ?_, hh.below hb (Nat.le_refl _), hi.below hb (Nat.le_refl _)⟩
    · rw [hW, Below.heap_alloc _ _ _ (by simp; omega), Below.heap_alloc _ _ _ (by simp)]; exact h1
    · rw [hW, Below.heap_alloc _ _ _ (by simp)]; exact h2
    · rw [hW]; exact h3
  have hcall := c_index a c rs 40 #[.pointer (some ⟨w.heap.size, 0, none⟩), .pointer (some ⟨w.heap.size + 1, 0, none⟩), .pointer (some ⟨w.heap.size + 1 + 1, 0, none⟩)] (enters_of Tryz.func40 (by kernel_rfl) rfl) (firstP list hs X) W (hl.below hb (Nat.le_refl _))
    (fun W2 k x hW2 hx _ => c_first1 k x list ha hc hs X _ _ _ W2 hx (hF.step hW2))
  have HB := Lib.hid hb
  clear h1 h2 h3 hb hF hl hh hi
  have HF := Lib.hid (show firstB rs list hs X = findIx (firstP list hs X) 0 rs from rfl)
  generalize findIx (firstP list hs X) 0 rs = n at hcall HF
  go_enter Tryz.func14, Tryz.ntmps14
  go_upto_region 1 with fail
  rw [← hW]
  clear hW
  go_wp2_with (go_at_call 39; refine hcall.mono ?_; rintro e w' ⟨rfl, hb'⟩)
  go_ret
  exact ⟨ret_int HF.out.symm, HB.out.trans (hb'.mono HB.out.size)⟩
end Go.Proofs.YtnbfenapnfbmeaaGreat
