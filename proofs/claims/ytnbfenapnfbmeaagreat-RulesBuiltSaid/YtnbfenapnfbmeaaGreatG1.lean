/- Contracts: the evaluation of tests (the program). -/
import Derived.Test.YtnbfenapnfbmeaaGreatE4
import Derived.Deep.RegionLaw
import Derived.Deep.RegionHeld3
set_option linter.unusedSimpArgs false
set_option linter.unusedVariables false
namespace Go.Proofs.YtnbfenapnfbmeaaGreat
open Go.RowKit
def fileEq (x0 x1 y0 y1 : Int) : Bool := x0 == y0 && x1 == y1
@[go_sem high] theorem eqFile (d : Nat) (w : World) (x0 y0 x1 y1 : Int) :
    (Op.equalIn (d + 2) 28 (.agg #[.int .i64 x0, .int .i64 x1]) (.agg #[.int .i64 y0, .int .i64 y1])).run Tryz.prog w = .ok (fileEq x0 x1 y0 y1) w := by
  unfold fileEq
  refine feq_of Tryz.underlying28 (by kernel_rfl) ?_
  refine feq_cons (by rfl) (by go_simp; rfl) (by go_simp; rfl) (by go_simp) ?_
  exact feq_last (by rfl) (by go_simp; rfl) (by go_simp; rfl) (by go_simp)
def compareB (op a b : Int) : Bool := if op == 1 then a == b else if op == 2 then a != b else if op == 3 then decide (a < b) else if op == 4 then decide (a ≤ b) else if op == 5 then decide (b < a) else if op == 6 then decide (b ≤ a) else if op == 7 then bits BinOp.and IntKind.i64 a b != 0 else bits BinOp.and IntKind.i64 a b == b
set_option maxRecDepth 100000 in
set_option maxHeartbeats 1000000 in
theorem c_compare (op a b : Int) (w : World) : Calls Tryz.prog 85 #[.int .i64 op, .int .i64 a, .int .i64 b] w fun e w' => e = .returned (.bool (compareB op a b)) ∧ w = w' := by
  go_enter Tryz.func85, Tryz.ntmps85
  go_wp2
  all_goals (go_ret; refine ⟨ret_bool ?_, rfl⟩; unfold compareB; simp [*])
/-- The kit's law of a take, the temporary named. -/
theorem takeAt {P : Program} {ops : Array Oper} {Q : Exit → Act → World → Prop} {md : Region.Mode} {S : World → Prop} (i : Nat) {oi : Oper} {d : Tmp} {v : Value} {fuel : Nat} {listed : Array Bool} {a : Act} {w : World} (hi : ops[i]? = some oi) (hd : oi.dst = some d)
    (hs : Region.noSelect ops = true) (hf : Region.free md ops listed i = true) (hr : (Region.ready md ops listed).contains i = true)
    (hQ : ∀ c a w, Q (.panic c) (a.put (some d) v) w → Q (.panic c) a w) (hy : YieldsIf P ops S oi v a) (hS : S w)
    (h : wpAnyH P md ops Q S fuel (listed.setIfInBounds i true) (a.put (some d) v) w) : wpAnyH P md ops Q S (fuel + 1) listed a w :=
  wpAnyH_take hi hs hf hr (by rw [hd]; exact hQ) hy hS (by rw [hd]; exact h)
def itemF (f : Int) : Bool := decide (17 ≤ f) && decide (f ≤ 21)
def valOf (f : Int) (X : Ctx) (it : Item) : Int × Bool := if itemF f then (itemOf f.toNat it, X.phase == 2 && !fileEq it.fd it.fi 0 0) else numOf f.toNat X
/-- What 'get' answers. -/
def GetPost (W : World) (r : Int × Bool) (e : Ending) (w' : World) : Prop := e = .returned (.tuple #[.int .i64 r.1, .bool r.2]) ∧ Below W.heap.size W w'
theorem KnownR.num {b : Nat} {w : World} {f : Int} {num text item : Value} {ok : Bool} (h : KnownR b w f num text item ok) (hf : 1 ≤ f ∧ f ≤ 22) (ht : isText f = false) (hi : itemF f = false) : text = .nilFunc ∧ item = .nilFunc ∧ NumFn b w num (numOf f.toNat) := by
  obtain ⟨_, hr⟩ := h.1 hf
  refine hr.2.2 ?_ ?_
  · simp [isText] at ht; omega
  · simp [itemF] at hi; omega
theorem KnownR.itm {b : Nat} {w : World} {f : Int} {num text item : Value} {ok : Bool} (h : KnownR b w f num text item ok) (hf : 1 ≤ f ∧ f ≤ 22) (hi : itemF f = true) : num = .nilFunc ∧ text = .nilFunc ∧ ∃ g, item = .func (.func g) #[] #[] ∧ ItemFn g (itemOf f.toNat) := by
  obtain ⟨_, hr⟩ := h.1 hf
  refine hr.2.1 ?_
  simp [itemF] at hi; omega
/-- What 'get' reads for a field of items. -/
structure ItemCells (W : World) (it : Item) (ib xb px f : Nat) (X : Ctx) (nm : ByteArray) (g : Nat) : Prop where
  hi : W.heap[ib]? = some (itemBox it)
  hx : W.heap[xb]? = some (.cells #[.pointer (some ⟨px, 0, none⟩)] 101)
  hp : W.heap[px]? = some (ctxBox X)
  hf : W.heap[f]? = some (.cells #[.string nm, .nilFunc, .nilFunc, .func (.func g) #[] #[]] 98)
theorem ItemCells.cells {W : World} {it : Item} {ib xb px f : Nat} {X : Ctx} {nm : ByteArray} {g : Nat} (h : ItemCells W it ib xb px f X nm g) :
    W.cell? ⟨ib, 0, none⟩ = some (.string it.given) ∧ W.cell? ⟨ib, 1, none⟩ = some (.string it.path) ∧ W.cell? ⟨ib, 2, none⟩ = some (.int .i64 it.dd) ∧ W.cell? ⟨ib, 3, none⟩ = some (.int .i64 it.di) ∧ W.cell? ⟨ib, 4, none⟩ = some (.string it.name) ∧ W.cell? ⟨ib, 5, none⟩ = some (.int .i64 it.fd) ∧ W.cell? ⟨ib, 6, none⟩ = some (.int .i64 it.fi) ∧
    W.cell? ⟨ib, 7, none⟩ = some (.int .i64 it.role) ∧ W.cell? ⟨ib, 8, none⟩ = some (.int .i64 it.kind) ∧ W.cell? ⟨ib, 9, none⟩ = some (.int .i64 it.mode) ∧ W.cell? ⟨ib, 10, none⟩ = some (.int .i64 it.uid) ∧ W.cell? ⟨ib, 11, none⟩ = some (.int .i64 it.gid) ∧ W.cell? ⟨ib, 12, none⟩ = some (.int .i64 it.perm) ∧
    W.cell? ⟨xb, 0, none⟩ = some (.pointer (some ⟨px, 0, none⟩)) ∧ W.cell? ⟨px, 0, none⟩ = some (.int .i64 X.phase) ∧ W.cell? ⟨f, 3, none⟩ = some (.func (.func g) #[] #[]) := by
  have c := cell_of_block h.hi
  have d := cell_of_block h.hx
  have p := cell_of_block h.hp
  have f := cell_of_block h.hf
  exact ⟨c 0, c 1, c 2, c 3, c 4, c 5, c 6, c 7, c 8, c 9, c 10, c 11, c 12, d 0, p 0, f 3⟩
set_option maxRecDepth 100000 in
set_option maxHeartbeats 4000000 in
theorem c_get (n : Int) (X : Ctx) (it : Item) (ib xb px : Nat) (W : World) (hi : W.heap[ib]? = some (itemBox it)) (hx : W.heap[xb]? = some (.cells #[.pointer (some ⟨px, 0, none⟩)] 101)) (hp : W.heap[px]? = some (ctxBox X)) (hn : 1 ≤ n ∧ n ≤ 22) (ht : isText n = false) :
    Calls Tryz.prog 84 #[.int .i64 n, .pointer (some ⟨ib, 0, none⟩), .pointer (some ⟨xb, 0, none⟩)] W (GetPost W (valOf n X it)) := by
  have HV := Lib.hid (show valOf n X it = if itemF n then (itemOf n.toNat it, X.phase == 2 && !fileEq it.fd it.fi 0 0) else numOf n.toNat X from rfl)
  have e1 : ∀ (g : Nat) (W : World), (binOp .neq 96 (.func (.func g) #[] #[]) .nilFunc).run Tryz.prog W = .ok (.bool true) W := fun g W => by rfl
  have e2 : ∀ (W : World), (binOp .neq 96 .nilFunc .nilFunc).run Tryz.prog W = .ok (.bool false) W := fun W => by rfl
  have hli := lt_of_some hi
  have hlx := lt_of_some hx
  have hlp := lt_of_some hp
  cases hq : itemF n with
  | false =>
    rw [hq, if_neg (by simp)] at HV
    go_enter Tryz.func84, Tryz.ntmps84
    go_upto_region 2 with (first
    | (go_at_call 61; refine (c_known _ _).mono ?_; rintro e w' ⟨nm, num, text, item, ok, b, rfl, hk, hb'⟩
       obtain ⟨rfl, rfl, hnf⟩ := hk.num hn ht hq
       obtain ⟨g, bs, rfl, hen, hnc⟩ := hnf
       have HEN := Lib.hid hen
       have HNC := Lib.hid hnc
       clear hen hnc
       have HB := Lib.hid hb'
       clear hk hb')
    | (refine wpList_store_row (by rfl) 98 _ _ (by rfl) _ #[_, _, _, _] (by rfl) (by rfl) 98 #[.string ⟨#[]⟩, .nilFunc, .nilFunc, .nilFunc] (heap_new _ _) (by kernel_rfl) (by rfl) (by kernel_rfl) ?_; rw [setRow_new]))
    obtain ⟨W1, hW1⟩ : ∃ W1, W1 = w'.alloc (Obj.cells #[Value.string nm, Value.func (Fn.func g) #[] bs, Value.nilFunc, Value.nilFunc] 98) := ⟨_, rfl⟩
    have hB1 : Below W.heap.size W W1 := by rw [hW1]; exact HB.out.alloc HB.out.size _
    have hnew : W1.heap[w'.heap.size]? = some (.cells #[Value.string nm, Value.func (Fn.func g) #[] bs, Value.nilFunc, Value.nilFunc] 98) := by rw [hW1]; exact heap_new _ _
    have hcall := HNC.out X px W1 (by rw [hW1]; exact Kept.below ((Below.refl _ _).alloc (Nat.le_refl _) _) (Nat.le_refl _)) ((hB1.block px hlp).trans hp)
    have c1 := cell_of_block hnew 1
    have c3 := cell_of_block hnew 3
    have cx := cell_of_block ((hB1.block xb hlx).trans hx) 0
    simp at c1 c3 cx
    have HB1 := Lib.hid hB1
    rw [← hW1]
    clear hB1 hnew hW1 HNC HB hp hi hx
    have e3 := e2 W1
    clear e1 e2
    have hen := HEN.out
    go_wp2_with (go_at_fn g; refine hcall.mono ?_; rintro e w2 ⟨rfl, m, rfl⟩)
    go_ret2
    exact ⟨by rw [HV.out]; rfl, pw_drewN HB1.out _⟩
  | true =>
    rw [hq, if_pos rfl] at HV
    go_enter Tryz.func84, Tryz.ntmps84
    go_upto_region 2 with (first
    | (go_at_call 61; refine (c_known _ _).mono ?_; rintro e w' ⟨nm, num, text, item, ok, b, rfl, hk, hb'⟩
       obtain ⟨rfl, rfl, g, rfl, hen, hic⟩ := hk.itm hn hq
       have HEN := Lib.hid hen
       have HIC := Lib.hid hic
       clear hen hic
       have HB := Lib.hid hb'
       clear hk hb')
    | (refine wpList_store_row (by rfl) 98 _ _ (by rfl) _ #[_, _, _, _] (by rfl) (by rfl) 98 #[.string ⟨#[]⟩, .nilFunc, .nilFunc, .nilFunc] (heap_new _ _) (by kernel_rfl) (by rfl) (by kernel_rfl) ?_; rw [setRow_new]))
    obtain ⟨W1, hW1⟩ : ∃ W1, W1 = w'.alloc (Obj.cells #[Value.string nm, Value.nilFunc, Value.nilFunc, Value.func (Fn.func g) #[] #[]] 98) := ⟨_, rfl⟩
    have hB1 : Below W.heap.size W W1 := by rw [hW1]; exact HB.out.alloc HB.out.size _
    have hnew : W1.heap[w'.heap.size]? = some (.cells #[Value.string nm, Value.nilFunc, Value.nilFunc, Value.func (Fn.func g) #[] #[]] 98) := by rw [hW1]; exact heap_new _ _
    have c3 := cell_of_block hnew 3
    simp at c3
    have HB1 := Lib.hid hB1
    have HNEW := Lib.hid hnew
    rw [← hW1]
    clear hB1 hnew hW1 HB
    have e3 := e1 g W1
    clear e1 e2
    go_wp2
    clear c3 e3
    have bi := (HB1.out.block ib hli).trans hi
    have bx := (HB1.out.block xb hlx).trans hx
    have bp := (HB1.out.block px hlp).trans hp
    have hs1 := HB1.out.size
    have HA := Lib.hid (show ItemCells W1.drew it ib xb px w'.heap.size X nm g from ⟨bi, bx, bp, HNEW.out⟩)
    have hlw : w'.heap.size < W1.heap.size := lt_of_some HNEW.out
    have HAA := Lib.hid (show ∀ w2, Below W1.drew.heap.size W1.drew w2 → ItemCells w2 it ib xb px w'.heap.size X nm g from fun w2 hb => ⟨(hb.block ib (Nat.lt_of_lt_of_le hli hs1)).trans bi, (hb.block xb (Nat.lt_of_lt_of_le hlx hs1)).trans bx, (hb.block px (Nat.lt_of_lt_of_le hlp hs1)).trans bp, (hb.block _ hlw).trans HNEW.out⟩)
    clear bi bx bp hi hx hp HNEW
    obtain ⟨a0, a1, a2, a3, a4, a5, a6, a7, a8, a9, a10, a11, a12, ax, ap, a13⟩ := HA.out.cells
    have hen := HEN.out
    cases hph : X.phase == 2 with
    | true =>
      go_region_held3 (fun wz => wz.cell? ⟨ib, 0, none⟩ = some (.string it.given) ∧ wz.cell? ⟨ib, 1, none⟩ = some (.string it.path) ∧ wz.cell? ⟨ib, 2, none⟩ = some (.int .i64 it.dd) ∧ wz.cell? ⟨ib, 3, none⟩ = some (.int .i64 it.di) ∧ wz.cell? ⟨ib, 4, none⟩ = some (.string it.name) ∧ wz.cell? ⟨ib, 5, none⟩ = some (.int .i64 it.fd) ∧ wz.cell? ⟨ib, 6, none⟩ = some (.int .i64 it.fi) ∧ wz.cell? ⟨ib, 7, none⟩ = some (.int .i64 it.role) ∧ wz.cell? ⟨ib, 8, none⟩ = some (.int .i64 it.kind) ∧ wz.cell? ⟨ib, 9, none⟩ = some (.int .i64 it.mode) ∧ wz.cell? ⟨ib, 10, none⟩ = some (.int .i64 it.uid) ∧ wz.cell? ⟨ib, 11, none⟩ = some (.int .i64 it.gid) ∧ wz.cell? ⟨ib, 12, none⟩ = some (.int .i64 it.perm) ∧ wz.cell? ⟨xb, 0, none⟩ = some (.pointer (some ⟨px, 0, none⟩)) ∧ wz.cell? ⟨px, 0, none⟩ = some (.int .i64 X.phase) ∧ wz.cell? ⟨w'.heap.size, 3, none⟩ = some (.func (.func g) #[] #[])) (first | exact HA.out.cells | exact (HAA.out _ (by assumption)).cells | go_keep) (first | (go_at_fn g; refine (HIC.out it _).mono ?_; rintro e w2 ⟨rfl, hb2⟩))
      all_goals
        go_wp2
        go_ret2
        exact ⟨by rw [HV.out, hph]; simp, HB1.out.trans ((show Below W1.heap.size W1 w2 from ⟨hb2.os, hb2.tape, hb2.output, hb2.size, hb2.block⟩).mono HB1.out.size)⟩
    | false =>
      refine wp_region_held_drew (S := (fun wz => wz.cell? ⟨ib, 0, none⟩ = some (.string it.given) ∧ wz.cell? ⟨ib, 1, none⟩ = some (.string it.path) ∧ wz.cell? ⟨ib, 2, none⟩ = some (.int .i64 it.dd) ∧ wz.cell? ⟨ib, 3, none⟩ = some (.int .i64 it.di) ∧ wz.cell? ⟨ib, 4, none⟩ = some (.string it.name) ∧ wz.cell? ⟨ib, 5, none⟩ = some (.int .i64 it.fd) ∧ wz.cell? ⟨ib, 6, none⟩ = some (.int .i64 it.fi) ∧ wz.cell? ⟨ib, 7, none⟩ = some (.int .i64 it.role) ∧ wz.cell? ⟨ib, 8, none⟩ = some (.int .i64 it.kind) ∧ wz.cell? ⟨ib, 9, none⟩ = some (.int .i64 it.mode) ∧ wz.cell? ⟨ib, 10, none⟩ = some (.int .i64 it.uid) ∧ wz.cell? ⟨ib, 11, none⟩ = some (.int .i64 it.gid) ∧ wz.cell? ⟨ib, 12, none⟩ = some (.int .i64 it.perm) ∧ wz.cell? ⟨xb, 0, none⟩ = some (.pointer (some ⟨px, 0, none⟩)) ∧ wz.cell? ⟨px, 0, none⟩ = some (.int .i64 X.phase) ∧ wz.cell? ⟨w'.heap.size, 3, none⟩ = some (.func (.func g) #[] #[]))) (by kernel_rfl) (by exact HA.out.cells) (fun hHeld => ?_)
      refine takeAt 0 (v := ?_) rfl rfl (by kernel_rfl) (by kernel_rfl) (by kernel_rfl) (fun _ _ _ h => h) (Or.inl ⟨by rfl, (by intro w hSw; (try dsimp only at hSw); go_simp; try with_reducible rfl)⟩) (by assumption) ?_
      try simp only [Act.put, List.setIfInBounds_toArray, List.set_cons_zero, List.set_cons_succ]
      refine takeAt 1 (v := ?_) rfl rfl (by kernel_rfl) (by kernel_rfl) (by kernel_rfl) (fun _ _ _ h => h) (Or.inl ⟨by rfl, (by intro w hSw; (try dsimp only at hSw); go_simp; try with_reducible rfl)⟩) (by assumption) ?_
      try simp only [Act.put, List.setIfInBounds_toArray, List.set_cons_zero, List.set_cons_succ]
      refine takeAt 2 (v := ?_) rfl rfl (by kernel_rfl) (by kernel_rfl) (by kernel_rfl) (fun _ _ _ h => h) (Or.inl ⟨by rfl, (by intro w hSw; (try dsimp only at hSw); go_simp; try with_reducible rfl)⟩) (by assumption) ?_
      try simp only [Act.put, List.setIfInBounds_toArray, List.set_cons_zero, List.set_cons_succ]
      refine takeAt 4 (v := ?_) rfl rfl (by kernel_rfl) (by kernel_rfl) (by kernel_rfl) (fun _ _ _ h => h) (Or.inl ⟨by rfl, (by intro w hSw; (try dsimp only at hSw); go_simp; try with_reducible rfl)⟩) (by assumption) ?_
      try simp only [Act.put, List.setIfInBounds_toArray, List.set_cons_zero, List.set_cons_succ]
      refine takeAt 5 (v := ?_) rfl rfl (by kernel_rfl) (by kernel_rfl) (by kernel_rfl) (fun _ _ _ h => h) (Or.inl ⟨by rfl, (by intro w hSw; (try dsimp only at hSw); go_simp; try with_reducible rfl)⟩) (by assumption) ?_
      try simp only [Act.put, List.setIfInBounds_toArray, List.set_cons_zero, List.set_cons_succ]
      refine takeAt 6 (v := ?_) rfl rfl (by kernel_rfl) (by kernel_rfl) (by kernel_rfl) (fun _ _ _ h => h) (Or.inl ⟨by rfl, (by intro w hSw; (try dsimp only at hSw); go_simp; try with_reducible rfl)⟩) (by assumption) ?_
      try simp only [Act.put, List.setIfInBounds_toArray, List.set_cons_zero, List.set_cons_succ]
      refine takeAt 7 (v := ?_) rfl rfl (by kernel_rfl) (by kernel_rfl) (by kernel_rfl) (fun _ _ _ h => h) (Or.inl ⟨by rfl, (by intro w hSw; (try dsimp only at hSw); go_simp; try with_reducible rfl)⟩) (by assumption) ?_
      try simp only [Act.put, List.setIfInBounds_toArray, List.set_cons_zero, List.set_cons_succ]
      refine takeAt 8 (v := ?_) rfl rfl (by kernel_rfl) (by kernel_rfl) (by kernel_rfl) (fun _ _ _ h => h) (Or.inl ⟨by rfl, (by intro w hSw; (try dsimp only at hSw); go_simp; try with_reducible rfl)⟩) (by assumption) ?_
      try simp only [Act.put, List.setIfInBounds_toArray, List.set_cons_zero, List.set_cons_succ]
      refine wpAnyH_ready (rs := [3]) (by kernel_rfl) (by simp) (AllReadyH.cons rfl (fun K hK => ?_) AllReadyH.nil)
      go_simp
      go_at_fn g
      refine (HIC.out it _).mono ?_
      rintro e w2 ⟨rfl, hb2⟩
      go_wp2_with fail
      refine hK.out _ _ (by exact (HAA.out _ hb2).cells) (fun hHeld => ?_)
      clear hK K
      try simp only [Act.put, List.setIfInBounds_toArray, List.set_cons_zero, List.set_cons_succ]
      refine takeAt 9 (v := ?_) rfl rfl (by kernel_rfl) (by kernel_rfl) (by kernel_rfl) (fun _ _ _ h => h) (Or.inl ⟨by rfl, (by intro w hSw; (try dsimp only at hSw); go_simp; try with_reducible rfl)⟩) (by assumption) ?_
      try simp only [Act.put, List.setIfInBounds_toArray, List.set_cons_zero, List.set_cons_succ]
      refine takeAt 10 (v := undef) rfl rfl (by kernel_rfl) (by kernel_rfl) (by kernel_rfl) (fun _ _ _ h => h) (Or.inr ⟨by rfl, rfl⟩) (by assumption) ?_
      try simp only [Act.put, List.setIfInBounds_toArray, List.set_cons_zero, List.set_cons_succ]
      refine takeAt 11 (v := undef) rfl rfl (by kernel_rfl) (by kernel_rfl) (by kernel_rfl) (fun _ _ _ h => h) (Or.inr ⟨by rfl, rfl⟩) (by assumption) ?_
      try simp only [Act.put, List.setIfInBounds_toArray, List.set_cons_zero, List.set_cons_succ]
      refine takeAt 12 (v := undef) rfl rfl (by kernel_rfl) (by kernel_rfl) (by kernel_rfl) (fun _ _ _ h => h) (Or.inr ⟨by rfl, rfl⟩) (by assumption) ?_
      try simp only [Act.put, List.setIfInBounds_toArray, List.set_cons_zero, List.set_cons_succ]
      refine takeAt 13 (v := undef) rfl rfl (by kernel_rfl) (by kernel_rfl) (by kernel_rfl) (fun _ _ _ h => h) (Or.inr ⟨by rfl, rfl⟩) (by assumption) ?_
      try simp only [Act.put, List.setIfInBounds_toArray, List.set_cons_zero, List.set_cons_succ]
      refine takeAt 14 (v := ?_) rfl rfl (by kernel_rfl) (by kernel_rfl) (by kernel_rfl) (fun _ _ _ h => h) (Or.inl ⟨by rfl, (by intro w hSw; (try dsimp only at hSw); go_simp; try with_reducible rfl)⟩) (by assumption) ?_
      try simp only [Act.put, List.setIfInBounds_toArray, List.set_cons_zero, List.set_cons_succ]
      refine takeAt 15 (v := ?_) rfl rfl (by kernel_rfl) (by kernel_rfl) (by kernel_rfl) (fun _ _ _ h => h) (Or.inl ⟨by rfl, (by intro w hSw; (try dsimp only at hSw); go_simp; try with_reducible rfl)⟩) (by assumption) ?_
      try simp only [Act.put, List.setIfInBounds_toArray, List.set_cons_zero, List.set_cons_succ]
      refine takeAt 16 (v := ?_) rfl rfl (by kernel_rfl) (by kernel_rfl) (by kernel_rfl) (fun _ _ _ h => h) (Or.inl ⟨by rfl, (by intro w hSw; (try dsimp only at hSw); go_simp; try with_reducible rfl)⟩) (by assumption) ?_
      try simp only [Act.put, List.setIfInBounds_toArray, List.set_cons_zero, List.set_cons_succ]
      refine wpAnyH_done (by kernel_rfl) ?_ _
      all_goals
        go_wp2
        go_ret2
        exact ⟨by rw [HV.out, hph]; simp, HB1.out.trans ((show Below W1.heap.size W1 w2 from ⟨hb2.os, hb2.tape, hb2.output, hb2.size, hb2.block⟩).mono HB1.out.size)⟩
end Go.Proofs.YtnbfenapnfbmeaaGreat
