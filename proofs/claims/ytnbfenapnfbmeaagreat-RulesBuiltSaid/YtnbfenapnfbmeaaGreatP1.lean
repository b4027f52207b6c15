/- Contracts: the evaluation of tests (the reference): values and comparisons. -/
import Derived.Test.YtnbfenapnfbmeaaGreatG4
import Derived.Test.YtnbfenapnfbmeaaGreatC4
import Derived.Test.YtnbfenapnfbmeaaGreatG5
import Derived.Deep.RegionHeld3
set_option linter.unusedSimpArgs false
set_option linter.unusedVariables false
namespace Go.Proofs.YtnbfenapnfbmeaaGreat
open Go.RowKit
set_option maxRecDepth 100000 in
set_option maxHeartbeats 1000000 in
theorem c_rholds (op a b : Int) (w : World) : Calls Tryz.prog 89 #[.int .i64 op, .int .i64 a, .int .i64 b] w fun e w' => e = .returned (.bool (compareB op a b)) ∧ w = w' := by
  go_enter Tryz.func89, Tryz.ntmps89
  go_wp2
  all_goals (go_ret; refine ⟨ret_bool ?_, rfl⟩; unfold compareB; simp [*])
theorem c_rofItems (f : Int) (w : World) : Calls Tryz.prog 67 #[.int .i64 f] w fun e w' => e = .returned (.bool (itemF f)) ∧ w = w' := by
  go_enter Tryz.func67, Tryz.ntmps67
  go_wp2
  all_goals (go_ret; refine ⟨ret_bool ?_, rfl⟩; unfold itemF; simp [*] <;> (intros; omega))
def hasB (f : Int) (X : Ctx) : Bool := if decide (15 ≤ f) && decide (f ≤ 21) then X.phase == 2 else f != 22 || X.type != 0
set_option maxRecDepth 100000 in
set_option maxHeartbeats 1000000 in
theorem c_rhasF (f : Int) (X : Ctx) (w : World) : Calls Tryz.prog 66 #[.int .i64 f, X.v] w (HoldsPost w (hasB f X)) := by
  go_enter Tryz.func66, Tryz.ntmps66
  go_upto_region 1 with fail
  have hbox := heap_new w (ctxBox X)
  have HB := Lib.hid ((Below.refl _ w).alloc (Nat.le_refl _) (ctxBox X))
  obtain ⟨W1, hW1⟩ : ∃ W1, W1 = w.alloc (ctxBox X) := ⟨_, rfl⟩
  change Code.wp _ _ _ _ (w.alloc (ctxBox X))
  rw [← hW1] at hbox HB ⊢
  clear hW1
  have c := cell_of_block hbox
  have k0 := c 0
  have k24 := c 24
  simp at k0 k24
  clear c hbox
  go_wp2
  all_goals (go_ret; refine ⟨ret_bool ?_, HB.out⟩; unfold hasB; simp [*] <;> (intros; omega))
/-- Some list from 6 - n on takes the test. -/
def soundUp (t : Test) : Nat → Bool
  | 0 => false
  | n + 1 => testCheck t (5 - n) == 0 || soundUp t n
set_option maxRecDepth 100000 in
set_option maxHeartbeats 1000000 in
theorem c_rsound (t : Test) (w : World) : Calls Tryz.prog 65 #[t.v] w (HoldsPost w (soundUp t 5)) := by
  go_enter Tryz.func65, Tryz.ntmps65
  go_wp2
  go_loopg [3] 5 (fun gg s3 wr => ∃ n : Nat, n ≤ gg ∧ n ≤ 5 ∧ s3 = .int .i64 (6 - n) ∧ Aside (soundUp t 5 = soundUp t n) ∧ Aside (Below w.heap.size w wr) ∧ wr.heap[w.heap.size]? = some (testBox t))
  case atStart => exact ⟨5, Nat.le_refl _, Nat.le_refl _, rfl, rfl, (Below.refl _ w).alloc (Nat.le_refl _) _, heap_new _ _⟩
  case round =>
    obtain ⟨n, hg, hn, rfl, HT, HB, hbox⟩ := hrel
    cases n with
    | zero =>
      go_wp2
      go_ret
      exact ⟨ret_bool HT.symm, HB⟩
    | succ n =>
      have c := cell_of_block hbox
      have k0 := c 0
      have k1 := c 1
      have k2 := c 2
      have k3 := c 3
      have k4 := c 4
      simp at k0 k1 k2 k3 k4
      have HX := Lib.hid hbox
      clear c hbox
      have e6 : (6 : Int) - ((n + 1 : Nat) : Int) = 5 - n := by omega
      rw [e6]
      by_cases hc : testCheck t (5 - n) = 0
      · go_wp2_with (go_at_call 77; refine (c_rtestCheck t _ _).mono ?_; rintro e w' ⟨rfl, hb'⟩)
        go_ret
        exact ⟨ret_bool (by rw [HT, soundUp]; simp [hc]), HB.trans (hb'.mono HB.size)⟩
      · have hs : soundUp t 5 = soundUp t n := by
          rw [HT, soundUp]
          simp [hc]
        have HS := Lib.hid hs
        clear hs
        go_wp2_with (go_at_call 77; refine (c_rtestCheck t _ _).mono ?_; rintro e w' ⟨rfl, hb'⟩)
        go_roundg (gk - 1)
        case measure => omega
        case rel => exact ⟨n, by omega, by omega, by go_num, HS.out, HB.trans (hb'.mono HB.size), (hb'.block _ (lt_of_some HX.out)).trans HX.out⟩
def numR (f : Int) (X : Ctx) (it : Item) : Int :=
  if f == 1 then X.pid else if f == 2 then X.ppid else if f == 3 then X.uid else if f == 4 then X.euid else if f == 5 then X.gid else if f == 6 then X.egid else if f == 7 then X.auid else if f == 8 then X.ses else
  if f == 9 || f == 10 || f == 11 || f == 12 then argN X (f - 9) else if f == 15 then X.exit else if f == 16 then succ01 X.exit else if f == 17 then it.fi else if f == 18 then it.fd else if f == 19 then it.uid else if f == 20 then it.gid else if f == 21 then it.kind else X.type
abbrev procVs (X : Ctx) : Array Value := #[.int .i64 X.pid, .int .i64 X.ppid, .int .i64 X.uid, .int .i64 X.euid, .int .i64 X.gid, .int .i64 X.egid, .int .i64 X.auid, .int .i64 X.ses, .int .i64 X.cd, .int .i64 X.ci, .string X.comm, .string X.exe, .slice X.oa X.on X.oc, .bool X.audited]
abbrev procBox (X : Ctx) : Obj := .cells (procVs X) 31
set_option maxRecDepth 100000 in
set_option maxHeartbeats 4000000 in
theorem c_rnumber (f : Int) (X : Ctx) (it : Item) (w : World) : Calls Tryz.prog 88 #[.int .i64 f, X.v, it.v] w fun e w' => e = .returned (.int .i64 (numR f X it)) ∧ Below w.heap.size w w' := by
  go_enter Tryz.func88, Tryz.ntmps88
  go_upto_region 1 with fail
  have h1 := heap_new w (ctxBox X)
  have h2 := heap_new (w.alloc (ctxBox X)) (itemBox it)
  have h1' := (Below.heap_alloc (w.alloc (ctxBox X)) (itemBox it) w.heap.size (by simp)).trans h1
  have HB := Lib.hid (((Below.refl w.heap.size w).alloc (Nat.le_refl _) (ctxBox X)).alloc (by simp) (itemBox it))
  rw [World.size_alloc] at h2
  obtain ⟨W1, hW1⟩ : ∃ W1, W1 = (w.alloc (ctxBox X)).alloc (itemBox it) := ⟨_, rfl⟩
  change Code.wp _ _ _ _ ((w.alloc (ctxBox X)).alloc (itemBox it))
  rw [← hW1] at h1' h2 HB ⊢
  clear hW1 h1
  have c := cell_of_block h1'
  have k1 := c 1
  have k2 := c 2
  have k3 := c 3
  have k4 := c 4
  have k5 := c 5
  have k6 := c 6
  have k7 := c 7
  have k8 := c 8
  have k9 := c 9
  have k10 := c 10
  have k11 := c 11
  have k12 := c 12
  have k13 := c 13
  have k14 := c 14
  simp at k1 k2 k3 k4 k5 k6 k7 k8 k9 k10 k11 k12 k13 k14
  have H1 := Lib.hid h1'
  have H2 := Lib.hid h2
  clear c h1' h2
  go_cut [7] (fun s7 wc => s7 = .pointer (some ⟨W1.heap.size, 0, none⟩) ∧ Aside (Below w.heap.size w wc ∧ wc.heap[w.heap.size]? = some (ctxBox X) ∧ wc.heap[w.heap.size + 1]? = some (itemBox it) ∧ wc.heap[W1.heap.size]? = some (procBox X)))
  case first =>
    go_wp2_with (first
      | (refine wpList_store_row (by rfl) 31 _ _ (by rfl) _ (procVs X) (by rfl) (by rfl) 31 _ (heap_new _ _) (by kernel_rfl) (by rfl) (by kernel_rfl) ?_; rw [setRow_new]))
    go_meet
    have hb := (Below.refl W1.heap.size W1).alloc (Nat.le_refl _) (procBox X)
    exact ⟨rfl, HB.out.alloc HB.out.size _, (hb.block _ (lt_of_some H1.out)).trans H1.out, (hb.block _ (lt_of_some H2.out)).trans H2.out, heap_new _ _⟩
  case rest =>
    obtain ⟨rfl, hbw, hx, hi, hp⟩ := hcut
    clear k1 k2 k3 k4 k5 k6 k7 k8 k9 k10 k11 k12 k13 k14 HB H1 H2
    have HB := Lib.hid hbw
    have cx := cell_of_block hx
    have ci := cell_of_block hi
    have cp := cell_of_block hp
    have p0 := cp 0
    have p1 := cp 1
    have p2 := cp 2
    have p3 := cp 3
    have p4 := cp 4
    have p5 := cp 5
    have p6 := cp 6
    have p7 := cp 7
    have x16 := cx 16
    have x17 := cx 17
    have x18 := cx 18
    have x19 := cx 19
    have x22 := cx 22
    have x24 := cx 24
    have i5 := ci 5
    have i6 := ci 6
    have i8 := ci 8
    have i10 := ci 10
    have i11 := ci 11
    simp at p0 p1 p2 p3 p4 p5 p6 p7 x16 x17 x18 x19 x22 x24 i5 i6 i8 i10 i11
    clear cx ci cp hbw hx hi hp
    by_cases h9 : f = 9
    · subst h9
      go_wp2
      go_ret
      exact ⟨rfl, HB.out⟩
    by_cases h10 : f = 10
    · subst h10
      go_wp2
      go_ret
      exact ⟨rfl, HB.out⟩
    by_cases h11 : f = 11
    · subst h11
      go_wp2
      go_ret
      exact ⟨rfl, HB.out⟩
    by_cases h12 : f = 12
    · subst h12
      go_wp2
      go_ret
      exact ⟨rfl, HB.out⟩
    clear x16 x17 x18 x19
    go_wp2
    all_goals go_ret
    all_goals refine ⟨ret_int ?_, HB.out⟩
    all_goals (unfold numR succ01; simp [*])
end Go.Proofs.YtnbfenapnfbmeaaGreat
/- Contracts: the evaluation of tests (the reference): of an item. -/
set_option linter.unusedSimpArgs false
set_option linter.unusedVariables false
namespace Go.Proofs.YtnbfenapnfbmeaaGreat
open Go.RowKit
def oneB (t : Test) (X : Ctx) (it : Item) : Bool :=
  if isText t.field then (((if t.field == 14 then X.comm else X.exe).toList == t.text.toList) == (t.op == 1))
  else compareB t.op (numR t.field X it) (if t.other != 0 then numR t.other X it else t.num)
/-- A row or a struct that is read whole yields its value in every world that meets S. -/
theorem yields_row {P : Program} {ops : Array Oper} {S : World → Prop} {o : Oper} {a : Act} (hw : Region.wanted o (yielded ops a.tmps) = true) (ty : TypeId) (x : Operand) (ho : o.op = .load ty x) (g : Nat) (hx : a.eval x = .pointer (some ⟨g, 0, none⟩))
    (t : TypeId) (cs : Array Value) (fr : Nat × Nat) (d : TypeDesc) (hS : ∀ w, S w → w.heap[g]? = some (.cells cs t fr))
    (hu : P.underlying ty = some d) (hd : (match d with | .struct _ | .array _ _ => true | _ => false) = true) (hi : (P.info? ty).map (·.size) = some cs.size) : YieldsIf P ops S o (.agg cs) a :=
  .inl ⟨hw, fun w hw' => by
    unfold execOp
    simp only [ho, hx, Instr.loadAt, Instr.sureAddr, Sem.run_bind, Sem.run_pure, Result.andThen_ok, run_loadVar_row w g t ty cs fr d (hS w hw') hu hd hi]⟩
structure OneAt (w : World) (t : Test) (X : Ctx) (it : Item) (W : World) : Prop where
  below : Below w.heap.size w W
  tb : W.heap[w.heap.size]? = some (testBox t)
  xb : W.heap[w.heap.size + 1]? = some (ctxBox X)
  ib : W.heap[w.heap.size + 2]? = some (itemBox it)
theorem OneAt.step {w W W' : World} {t : Test} {X : Ctx} {it : Item} (h : OneAt w t X it W) (hb : Below W.heap.size W W') : OneAt w t X it W' :=
  ⟨h.below.trans (hb.mono h.below.size), (hb.block _ (lt_of_some h.tb)).trans h.tb, (hb.block _ (lt_of_some h.xb)).trans h.xb, (hb.block _ (lt_of_some h.ib)).trans h.ib⟩
theorem OneAt.new (w : World) (t : Test) (X : Ctx) (it : Item) : OneAt w t X it (((w.alloc (testBox t)).alloc (ctxBox X)).alloc (itemBox it)) := by
  have h1 := heap_new w (testBox t)
  have h2 := heap_new (w.alloc (testBox t)) (ctxBox X)
  have h3 := heap_new ((w.alloc (testBox t)).alloc (ctxBox X)) (itemBox it)
  rw [World.size_alloc] at h2
  rw [World.size_alloc, World.size_alloc] at h3
  refine ⟨(((Below.refl _ w).alloc (Nat.le_refl _) _).alloc (by simp) _).alloc (by simp; omega) _, ?_, ?_, h3⟩
  · rw [Below.heap_alloc _ _ _ (by simp; omega), Below.heap_alloc _ _ _ (by simp)]; exact h1
  · rw [Below.heap_alloc _ _ _ (by simp)]; exact h2
theorem OneAt.cells {w W : World} {t : Test} {X : Ctx} {it : Item} (h : OneAt w t X it W) :
    W.cell? ⟨w.heap.size, 0, none⟩ = some (.int .i64 t.field) ∧ W.cell? ⟨w.heap.size, 1, none⟩ = some (.int .i64 t.op) ∧ W.cell? ⟨w.heap.size, 2, none⟩ = some (.int .i64 t.num) ∧ W.cell? ⟨w.heap.size, 3, none⟩ = some (.string t.text) ∧ W.cell? ⟨w.heap.size, 4, none⟩ = some (.int .i64 t.other) ∧
    W.cell? ⟨w.heap.size + 1, 11, none⟩ = some (.string X.comm) ∧ W.cell? ⟨w.heap.size + 1, 12, none⟩ = some (.string X.exe) := by
  have c := cell_of_block h.tb
  have d := cell_of_block h.xb
  exact ⟨c 0, c 1, c 2, c 3, c 4, d 11, d 12⟩
set_option maxRecDepth 100000 in
set_option maxHeartbeats 4000000 in
theorem c_rone (t : Test) (X : Ctx) (it : Item) (w : World) : Calls Tryz.prog 68 #[t.v, X.v, it.v] w (HoldsPost w (oneB t X it)) := by
  have HA := Lib.hid (OneAt.new w t X it)
  have HE := Lib.hid (show oneB t X it = if isText t.field then (((if t.field == 14 then X.comm else X.exe).toList == t.text.toList) == (t.op == 1)) else compareB t.op (numR t.field X it) (if t.other != 0 then numR t.other X it else t.num) from rfl)
  go_enter Tryz.func68, Tryz.ntmps68
  go_upto_region 1 with fail
  obtain ⟨W1, hW1⟩ : ∃ W1, W1 = ((w.alloc (testBox t)).alloc (ctxBox X)).alloc (itemBox it) := ⟨_, rfl⟩
  change Code.wp _ _ _ _ (((w.alloc (testBox t)).alloc (ctxBox X)).alloc (itemBox it))
  rw [← hW1] at HA ⊢
  clear hW1
  obtain ⟨a0, a1, a2, a3, a4, x11, x12⟩ := HA.out.cells
  cases hq : isText t.field with
  | true =>
    rw [hq, if_pos rfl] at HE
    by_cases h14 : t.field = 14
    · go_wp2_with (first | (go_at_call 87; refine (c_text _ _).mono ?_; rintro e w' ⟨rfl, rfl⟩))
      go_ret
      exact ⟨ret_bool (by rw [HE.out, h14]; rfl), HA.out.below⟩
    · go_wp2_with (first | (go_at_call 87; refine (c_text _ _).mono ?_; rintro e w' ⟨rfl, rfl⟩))
      go_ret
      exact ⟨ret_bool (by rw [HE.out]; simp [h14]), HA.out.below⟩
  | false =>
    rw [hq, if_neg (by simp)] at HE
    go_upto_region 7 with (first | (go_at_call 87; refine (c_text _ _).mono ?_; rintro e w' ⟨rfl, rfl⟩))
    go_upto_if 33 with fail
    go_cut [8] (fun s8 wc => ∃ bv : Int, s8 = .int .i64 bv ∧ Aside (bv = if t.other != 0 then numR t.other X it else t.num) ∧ Aside (OneAt w t X it wc))
    case first =>
      by_cases h0 : t.other = 0
      · go_wp2
        go_meet
        exact ⟨_, rfl, (show _ = _ from by simp [h0]), HA.out⟩
      · go_wp2_with (first
          | (refine wpList_load_row (by rfl) 38 _ (by rfl) (w.heap.size + 1) (by rfl) 38 X.vs (0, 0) _ HA.out.xb Tryz.underlying38 rfl (by kernel_rfl) ?_)
          | (refine wpList_load_row (by rfl) 69 _ (by rfl) (w.heap.size + 1 + 1) (by rfl) 69 #[.string it.given, .string it.path, .int .i64 it.dd, .int .i64 it.di, .string it.name, .int .i64 it.fd, .int .i64 it.fi, .int .i64 it.role, .int .i64 it.kind, .int .i64 it.mode, .int .i64 it.uid, .int .i64 it.gid, .int .i64 it.perm] (0, 0) _ HA.out.ib Tryz.underlying69 rfl (by kernel_rfl) ?_)
          | (go_at_call 88; refine (c_rnumber _ X it _).mono ?_; rintro e w' ⟨rfl, hb'⟩; have HA2 := Lib.hid (HA.out.step hb')))
        go_meet
        exact ⟨_, rfl, (show _ = _ from by simp [h0]), HA2.out⟩
    case rest =>
      obtain ⟨bv, rfl, HV, HA2⟩ := hcut
      rw [← show bv = _ from HV] at HE
      clear HV
      clear a0 a1 a2 a3 a4 x11 x12 HA
      have HA := Lib.hid HA2
      clear HA2
      obtain ⟨a0, a1, a2, a3, a4, x11, x12⟩ := HA.out.cells
      have HD := Lib.hid (show OneAt w t X it wc.drew from ⟨pw_drew HA.out.below, HA.out.tb, HA.out.xb, HA.out.ib⟩)
      clear a0 a1 a2 a3 a4 x11 x12
      have f0 : ∀ wz, OneAt w t X it wz → wz.cell? ⟨w.heap.size, 0, none⟩ = some (.int .i64 t.field) := fun wz h => h.cells.1
      have f1 : ∀ wz, OneAt w t X it wz → wz.cell? ⟨w.heap.size, 1, none⟩ = some (.int .i64 t.op) := fun wz h => h.cells.2.1
      go_upto_region 9 with fail
      refine wp_region_held_drew (S := fun wz => OneAt w t X it wz) (by kernel_rfl) HD.out (fun hS0 => ?_)
      refine takeAt 0 (v := ?_) rfl rfl (by kernel_rfl) (by kernel_rfl) (by kernel_rfl) (fun _ _ _ h => h) (Or.inl ⟨by rfl, (by intro w hSw; (try dsimp only at hSw); go_simp; try with_reducible rfl)⟩) (by assumption) ?_
      try simp only [Act.put, List.setIfInBounds_toArray, List.set_cons_zero, List.set_cons_succ]
      refine takeAt 1 (v := ?_) rfl rfl (by kernel_rfl) (by kernel_rfl) (by kernel_rfl) (fun _ _ _ h => h) (Or.inl ⟨by rfl, (by intro w hSw; (try dsimp only at hSw); go_simp; try with_reducible rfl)⟩) (by assumption) ?_
      try simp only [Act.put, List.setIfInBounds_toArray, List.set_cons_zero, List.set_cons_succ]
      refine takeAt 2 (v := ?_) rfl rfl (by kernel_rfl) (by kernel_rfl) (by kernel_rfl) (fun _ _ _ h => h) (Or.inl ⟨by rfl, (by intro w hSw; (try dsimp only at hSw); go_simp; try with_reducible rfl)⟩) (by assumption) ?_
      try simp only [Act.put, List.setIfInBounds_toArray, List.set_cons_zero, List.set_cons_succ]
      refine takeAt 3 (v := ?_) rfl rfl (by kernel_rfl) (by kernel_rfl) (by kernel_rfl) (fun _ _ _ h => h) (Or.inl ⟨by rfl, (by intro w hSw; (try dsimp only at hSw); go_simp; try with_reducible rfl)⟩) (by assumption) ?_
      try simp only [Act.put, List.setIfInBounds_toArray, List.set_cons_zero, List.set_cons_succ]
      refine takeAt 4 rfl rfl (by kernel_rfl) (by kernel_rfl) (by kernel_rfl) (fun _ _ _ h => h) (yields_row (by rfl) 38 _ (by rfl) (w.heap.size + 1) (by rfl) 38 X.vs (0, 0) _ (fun _ h => OneAt.xb h) Tryz.underlying38 rfl (by kernel_rfl)) (by assumption) ?_
      try simp only [Act.put, List.setIfInBounds_toArray, List.set_cons_zero, List.set_cons_succ]
      refine takeAt 5 rfl rfl (by kernel_rfl) (by kernel_rfl) (by kernel_rfl) (fun _ _ _ h => h) (yields_row (by rfl) 69 _ (by rfl) (w.heap.size + 1 + 1) (by rfl) 69 #[.string it.given, .string it.path, .int .i64 it.dd, .int .i64 it.di, .string it.name, .int .i64 it.fd, .int .i64 it.fi, .int .i64 it.role, .int .i64 it.kind, .int .i64 it.mode, .int .i64 it.uid, .int .i64 it.gid, .int .i64 it.perm] (0, 0) _ (fun _ h => OneAt.ib h) Tryz.underlying69 rfl (by kernel_rfl)) (by assumption) ?_
      try simp only [Act.put, List.setIfInBounds_toArray, List.set_cons_zero, List.set_cons_succ]
      refine takeAt 7 (v := ?_) rfl rfl (by kernel_rfl) (by kernel_rfl) (by kernel_rfl) (fun _ _ _ h => h) (Or.inl ⟨by rfl, (by intro w hSw; (try dsimp only at hSw); go_simp; try with_reducible rfl)⟩) (by assumption) ?_
      try simp only [Act.put, List.setIfInBounds_toArray, List.set_cons_zero, List.set_cons_succ]
      refine wpAnyH_ready (rs := [6]) (by kernel_rfl) (by simp) (AllReadyH.cons rfl (fun K hK => ?_) AllReadyH.nil)
      go_simp
      go_at_call 88
      refine (c_rnumber _ X it _).mono ?_
      rintro e w2 ⟨rfl, hb2⟩
      have HS := Lib.hid (OneAt.step (by assumption) hb2)
      go_wp2_with fail
      refine hK.out _ _ HS.out (fun hHeld => ?_)
      clear hK K hS0
      try simp only [Act.put, List.setIfInBounds_toArray, List.set_cons_zero, List.set_cons_succ]
      refine wpAnyH_ready (rs := [8]) (by kernel_rfl) (by simp) (AllReadyH.cons rfl (fun K hK => ?_) AllReadyH.nil)
      go_simp
      go_at_call 89
      refine (c_rholds _ _ _ _).mono ?_
      rintro e w3 ⟨rfl, rfl⟩
      go_wp2_with fail
      refine hK.out _ _ HS.out (fun hHeld => ?_)
      clear hK K
      try simp only [Act.put, List.setIfInBounds_toArray, List.set_cons_zero, List.set_cons_succ]
      refine takeAt 9 (v := ?_) rfl rfl (by kernel_rfl) (by kernel_rfl) (by kernel_rfl) (fun _ _ _ h => h) (Or.inl ⟨by rfl, (by intro w hSw; (try dsimp only at hSw); go_simp; try with_reducible rfl)⟩) (by assumption) ?_
      try simp only [Act.put, List.setIfInBounds_toArray, List.set_cons_zero, List.set_cons_succ]
      refine wpAnyH_done (by kernel_rfl) ?_ _
      go_wp2
      go_ret
      exact ⟨ret_bool HE.out.symm, HS.out.below⟩
end Go.Proofs.YtnbfenapnfbmeaaGreat
