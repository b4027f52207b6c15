/- Contracts: the evaluation of tests, of a context (the program). -/
import Derived.Test.YtnbfenapnfbmeaaGreatG3
import Derived.Deep.CutBlock
set_option linter.unusedSimpArgs false
set_option linter.unusedVariables false
namespace Go.Proofs.YtnbfenapnfbmeaaGreat
open Go.RowKit
def itemZ : Item := ⟨⟨#[]⟩, ⟨#[]⟩, 0, 0, ⟨#[]⟩, 0, 0, 0, 0, 0, 0, 0, 0⟩
def checkBad (t : Test) : Bool := testCheck t 3 != 0 && testCheck t 5 != 0
def evalB (t : Test) (X : Ctx) : Bool := if checkBad t then false else if isText t.field then (((textOf t.field.toNat X).toList == t.text.toList) == (t.op == 1)) else if !itemF t.field && !itemF t.other then holdsB t X itemZ else X.items.any (holdsB t X)
theorem allowed_range (l f : Int) (h : allowed l f = true) : 1 ≤ f ∧ f ≤ 22 := by
  simp only [allowed] at h
  repeat' split at h
  all_goals simp at h
  all_goals omega
theorem compared_num (f : Int) (h : compared f = true) : isText f = false := by
  simp [compared] at h
  simp [isText]
  omega
theorem check_num (t : Test) (l : Int) (h : testCheck t l = 0) : allowed l t.field = true ∧ (t.other = 0 ∨ (allowed l t.other = true ∧ compared t.other = true ∧ compared t.field = true)) := by
  unfold testCheck at h
  by_cases h1 : (!allowed l t.field || t.other != 0 && (!allowed l t.other || !compared t.field || !compared t.other)) = true
  · rw [if_pos h1] at h
    cases h
  · simp at h1
    refine ⟨h1.1, ?_⟩
    by_cases hz : t.other = 0
    · exact .inl hz
    · right
      have h2 := h1.2 hz
      exact ⟨by simp_all, by simp_all, by simp_all⟩
theorem num_of_check (t : Test) (h : checkBad t = false) (ht : isText t.field = false) : NumTest t := by
  have h1 : testCheck t 3 = 0 ∨ testCheck t 5 = 0 := by
    simp [checkBad] at h
    by_cases h3 : testCheck t 3 = 0
    · exact .inl h3
    · exact .inr (h h3)
  have : ∃ l, testCheck t l = 0 := by
    rcases h1 with h1 | h1
    · exact ⟨_, h1⟩
    · exact ⟨_, h1⟩
  obtain ⟨l, hl⟩ := this
  obtain ⟨ha, ho⟩ := check_num t l hl
  have hr := allowed_range l _ ha
  refine ⟨⟨hr.1, hr.2, ht⟩, ?_⟩
  rcases ho with ho | ⟨h2, h3, _⟩
  · exact .inl ho
  · have hr2 := allowed_range l _ h2
    exact .inr ⟨hr2.1, hr2.2, compared_num _ h3⟩
theorem KnownR.txt {b : Nat} {w : World} {f : Int} {num text item : Value} {ok : Bool} (h : KnownR b w f num text item ok) (hi : isText f = true) : num = .nilFunc ∧ item = .nilFunc ∧ ∃ g, text = .func (.func g) #[] #[] ∧ TextFn g (textOf f.toNat) := by
  have hf : 1 ≤ f ∧ f ≤ 22 := by simp [isText] at hi; omega
  obtain ⟨_, hr⟩ := h.1 hf
  exact hr.1 (by simp [isText] at hi; omega)
/-- What the fields of a known field are, as far as Eval looks at them. -/
def TextAt (W : World) (B : Nat) (f : Int) : Prop := (isText f = true ∧ ∃ g, W.cell? ⟨B, 2, none⟩ = some (.func (.func g) #[] #[]) ∧ TextFn g (textOf f.toNat)) ∨ (isText f = false ∧ W.cell? ⟨B, 2, none⟩ = some .nilFunc)
def ItemFAt (W : World) (B : Nat) (f : Int) : Prop := (itemF f = true ∧ ∃ g, W.cell? ⟨B, 3, none⟩ = some (.func (.func g) #[] #[])) ∨ (itemF f = false ∧ W.cell? ⟨B, 3, none⟩ = some .nilFunc)
/-- The four ways of a known field. -/
theorem KnownR.ways {b : Nat} {w : World} {f : Int} {num text item : Value} {ok : Bool} (h : KnownR b w f num text item ok) :
    (isText f = true ∧ itemF f = false ∧ num = .nilFunc ∧ item = .nilFunc ∧ ∃ g, text = .func (.func g) #[] #[] ∧ TextFn g (textOf f.toNat)) ∨ (isText f = false ∧ itemF f = true ∧ num = .nilFunc ∧ text = .nilFunc ∧ ∃ g, item = .func (.func g) #[] #[]) ∨
    (isText f = false ∧ itemF f = false ∧ text = .nilFunc ∧ item = .nilFunc ∧ ∃ g bs, num = .func (.func g) #[] bs) ∨ (isText f = false ∧ itemF f = false ∧ num = .nilFunc ∧ text = .nilFunc ∧ item = .nilFunc) := by
  by_cases hf : 1 ≤ f ∧ f ≤ 22
  · cases ht : isText f with
    | true =>
      obtain ⟨a, b, c⟩ := h.txt ht
      exact .inl ⟨rfl, by simp [isText] at ht; simp [itemF]; omega, a, b, c⟩
    | false =>
      cases hi : itemF f with
      | true =>
        obtain ⟨a, b, g, c, _⟩ := h.itm hf hi
        exact .inr (.inl ⟨rfl, rfl, a, b, g, c⟩)
      | false =>
        obtain ⟨a, b, g, bs, c, _⟩ := h.num hf ht hi
        exact .inr (.inr (.inl ⟨rfl, rfl, a, b, g, bs, c⟩))
  · obtain ⟨_, a, b, c⟩ := h.2 hf
    exact .inr (.inr (.inr ⟨by simp [isText]; omega, by simp [itemF]; omega, a, b, c⟩))
theorem cell_step {W W' : World} {B i : Nat} {v : Value} (h : W.cell? ⟨B, i, none⟩ = some v) (hb : Below W.heap.size W W') : W'.cell? ⟨B, i, none⟩ = some v := by
  have hl : B < W.heap.size := by
    rw [World.cell?] at h
    cases hh : W.heap[B]? with
    | none => simp [hh] at h
    | some o => exact lt_of_some hh
  exact (hb.cell (p := ⟨B, i, none⟩) hl).trans h
theorem TextAt.step {W W' : World} {B : Nat} {f : Int} (h : TextAt W B f) (hb : Below W.heap.size W W') : TextAt W' B f := by
  rcases h with ⟨h, g, hc, ht⟩ | ⟨h, hc⟩
  · exact .inl ⟨h, g, cell_step hc hb, ht⟩
  · exact .inr ⟨h, cell_step hc hb⟩
theorem ItemFAt.step {W W' : World} {B : Nat} {f : Int} (h : ItemFAt W B f) (hb : Below W.heap.size W W') : ItemFAt W' B f := by
  rcases h with ⟨h, g, hc⟩ | ⟨h, hc⟩
  · exact .inl ⟨h, g, cell_step hc hb⟩
  · exact .inr ⟨h, cell_step hc hb⟩
/-- The boxes of 'Eval' in a later world. -/
structure EvalAt (w : World) (t : Test) (X : Ctx) (W : World) : Prop where
  below : Below w.heap.size w W
  tb : W.heap[w.heap.size]? = some (testBox t)
  xb : W.heap[w.heap.size + 1]? = some (ctxBox X)
theorem EvalAt.step {w W W' : World} {t : Test} {X : Ctx} (h : EvalAt w t X W) (hb : Below W.heap.size W W') : EvalAt w t X W' :=
  ⟨h.below.trans (hb.mono h.below.size), (hb.block _ (lt_of_some h.tb)).trans h.tb, (hb.block _ (lt_of_some h.xb)).trans h.xb⟩
theorem EvalAt.alloc {w W : World} {t : Test} {X : Ctx} (h : EvalAt w t X W) (o : Obj) : EvalAt w t X (W.alloc o) := h.step ((Below.refl _ _).alloc (Nat.le_refl _) _)
theorem EvalAt.new (w : World) (t : Test) (X : Ctx) : EvalAt w t X ((w.alloc (testBox t)).alloc (ctxBox X)) := by
  have h1 := heap_new w (testBox t)
  have h2 := heap_new (w.alloc (testBox t)) (ctxBox X)
  rw [World.size_alloc] at h2
  refine ⟨((Below.refl _ w).alloc (Nat.le_refl _) _).alloc (by simp) _, ?_, h2⟩
  rw [Below.heap_alloc _ _ _ (by simp)]; exact h1
theorem EvalAt.cells {w W : World} {t : Test} {X : Ctx} (h : EvalAt w t X W) :
    W.cell? ⟨w.heap.size, 0, none⟩ = some (.int .i64 t.field) ∧ W.cell? ⟨w.heap.size, 1, none⟩ = some (.int .i64 t.op) ∧ W.cell? ⟨w.heap.size, 2, none⟩ = some (.int .i64 t.num) ∧ W.cell? ⟨w.heap.size, 3, none⟩ = some (.string t.text) ∧ W.cell? ⟨w.heap.size, 4, none⟩ = some (.int .i64 t.other) := by
  have c := cell_of_block h.tb
  exact ⟨c 0, c 1, c 2, c 3, c 4⟩
set_option maxRecDepth 100000 in
set_option maxHeartbeats 1000000 in
theorem c_eval1 (t : Test) (X : Ctx) (it : Item) (tb xb : Nat) (W : World) (hn : NumTest t) (htb : W.heap[tb]? = some (testBox t)) (hxb : W.heap[xb]? = some (ctxBox X)) :
    Calls Tryz.prog 64 #[it.v, .pointer (some ⟨tb, 0, none⟩), .pointer (some ⟨xb, 0, none⟩)] W (HoldsPost W (holdsB t X it)) := by
  have hb := lt_of_some htb
  have htb2 := (Below.heap_alloc W (itemBox it) _ hb).trans htb
  have hxb2 := (Below.heap_alloc W (itemBox it) _ (lt_of_some hxb)).trans hxb
  have hcall := c_holds t X it xb (W.alloc (itemBox it)) hn hxb2
  have HB := Lib.hid ((Below.refl _ W).alloc (Nat.le_refl _) (itemBox it))
  have k0 := cell_of_block htb2 0
  have k1 := cell_of_block htb2 1
  have k2 := cell_of_block htb2 2
  have k3 := cell_of_block htb2 3
  have k4 := cell_of_block htb2 4
  rw [World.cell?_alloc_past _ _ _ hb] at k0 k1 k2 k3 k4
  simp at k0 k1 k2 k3 k4
  clear htb hxb htb2 hxb2
  go_enter Tryz.func64, Tryz.ntmps64
  go_wp2_with (go_at_call 62; refine hcall.mono ?_; rintro e w' ⟨rfl, hb'⟩)
  go_ret
  exact ⟨rfl, HB.out.trans (hb'.mono (by simp))⟩
set_option maxRecDepth 100000 in
set_option maxHeartbeats 4000000 in
theorem c_eval (t : Test) (X : Ctx) (w : World) (hit : ItemsAt w X.ia X.items) :
    Calls Tryz.prog 36 #[t.v, X.v] w (HoldsPost w (evalB t X)) := by
  have HA := Lib.hid (EvalAt.new w t X)
  have HI := Lib.hid hit
  clear hit
  have HE := Lib.hid (show evalB t X = if checkBad t then false else if isText t.field then (((textOf t.field.toNat X).toList == t.text.toList) == (t.op == 1)) else if !itemF t.field && !itemF t.other then holdsB t X itemZ else X.items.any (holdsB t X) from rfl)
  obtain ⟨a0, a1, a2, a3, a4⟩ := HA.out.cells
  go_enter Tryz.func36, Tryz.ntmps36
  go_upto_region 1 with fail
  go_cut [16] (fun v wc => v = .bool (checkBad t) ∧ Aside (EvalAt w t X wc))
  case first =>
    go_wp2_with (first
      | (go_at_call_of 60 (Value.int IntKind.i64 3); refine (c_testCheck t 3 _).mono ?_; rintro e w' ⟨rfl, hb'⟩; have HA' := Lib.hid (HA.out.step hb'); clear a0 a1 a2 a3 a4 HA hb'; have HA := HA'; clear HA'; obtain ⟨a0, a1, a2, a3, a4⟩ := HA.out.cells)
      | (go_at_call_of 60 (Value.int IntKind.i64 5); refine (c_testCheck t 5 _).mono ?_; rintro e w' ⟨rfl, hb'⟩; have HA' := Lib.hid (HA.out.step hb'); clear a0 a1 a2 a3 a4 HA hb'; have HA := HA'; clear HA'; obtain ⟨a0, a1, a2, a3, a4⟩ := HA.out.cells))
    all_goals (go_meet; refine ⟨congrArg Value.bool ?_, HA.out⟩; unfold checkBad; simp [*])
  case rest =>
    obtain ⟨rfl, HA1⟩ := hcut
    clear a0 a1 a2 a3 a4
    cases hq : checkBad t
    case true => (go_wp2; go_ret; exact ⟨ret_bool (by rw [HE.out, if_pos hq]), HA1.below⟩)
    have HQ := Lib.hid hq
    clear hq HA
    have HA := Lib.hid HA1
    clear HA1
    obtain ⟨a0, a1, a2, a3, a4⟩ := HA.out.cells
    go_upto_region 3 with fail
    go_cut [5, 6, 17, 18, 19, 20, 21, 22] (fun s5 s6 s17 s18 s19 s20 s21 s22 wc => ∃ B, s5 = .pointer (some ⟨B, 0, none⟩) ∧ Aside (TextAt wc B t.field) ∧ Aside (ItemFAt wc B t.field) ∧ Aside (EvalAt w t X wc))
    case first =>
      go_wp2_with (first
      | (go_at_call 61; refine (c_known _ _).mono ?_; rintro e w' ⟨nm, num, text, item, ok, b, rfl, hk, hb'⟩
         replace hb' := Lib.hid hb'
         rcases hk.ways with ⟨ht, hi, rfl, rfl, g, rfl, hx⟩ | ⟨ht, hi, rfl, rfl, g, rfl⟩ | ⟨ht, hi, rfl, rfl, g, bs, rfl⟩ | ⟨ht, hi, rfl, rfl, rfl⟩ <;> clear hk <;> replace ht := Lib.hid ht <;> replace hi := Lib.hid hi <;> (try replace hx := Lib.hid hx))
      | (refine wpList_store_row (by rfl) 98 _ _ (by rfl) _ #[_, _, _, _] (by rfl) (by rfl) 98 #[.string ⟨#[]⟩, .nilFunc, .nilFunc, .nilFunc] (heap_new _ _) (by kernel_rfl) (by rfl) (by kernel_rfl) ?_; rw [setRow_new]))
      all_goals go_meet
      all_goals refine ⟨_, rfl, ?_, ?_, (HA.out.step hb'.out).alloc _⟩
      · exact .inl ⟨ht.out, g, by rw [cell_of_block (heap_new _ _)]; rfl, hx.out⟩
      · exact .inr ⟨hi.out, by rw [cell_of_block (heap_new _ _)]; rfl⟩
      · exact .inr ⟨ht.out, by rw [cell_of_block (heap_new _ _)]; rfl⟩
      · exact .inl ⟨hi.out, g, by rw [cell_of_block (heap_new _ _)]; rfl⟩
      · exact .inr ⟨ht.out, by rw [cell_of_block (heap_new _ _)]; rfl⟩
      · exact .inr ⟨hi.out, by rw [cell_of_block (heap_new _ _)]; rfl⟩
      · exact .inr ⟨ht.out, by rw [cell_of_block (heap_new _ _)]; rfl⟩
      · exact .inr ⟨hi.out, by rw [cell_of_block (heap_new _ _)]; rfl⟩
    case rest =>
      obtain ⟨B1, rfl, HT1, HI1, HA2⟩ := hcut
      clear a0 a1 a2 a3 a4 HA
      have HA := Lib.hid HA2
      clear HA2
      obtain ⟨a0, a1, a2, a3, a4⟩ := HA.out.cells
      have HT := Lib.hid (And.intro HT1 HI1)
      clear HT1 HI1
      go_upto_region 4 with fail
      go_cut [7, 8, 23, 24, 25, 26, 27, 28] (fun s7 s8 s23 s24 s25 s26 s27 s28 wc => ∃ B, s7 = .pointer (some ⟨B, 0, none⟩) ∧ Aside (ItemFAt wc B t.other) ∧ Aside (TextAt wc B1 t.field) ∧ Aside (ItemFAt wc B1 t.field) ∧ Aside (EvalAt w t X wc))
      case first =>
        go_wp2_with (first
        | (go_at_call 61; refine (c_known _ _).mono ?_; rintro e w' ⟨nm, num, text, item, ok, b, rfl, hk, hb'⟩
           replace hb' := Lib.hid hb'
           rcases hk.ways with ⟨ht, hi, rfl, rfl, g, rfl, hx⟩ | ⟨ht, hi, rfl, rfl, g, rfl⟩ | ⟨ht, hi, rfl, rfl, g, bs, rfl⟩ | ⟨ht, hi, rfl, rfl, rfl⟩ <;> clear hk <;> (try clear hx) <;> clear ht <;> replace hi := Lib.hid hi)
        | (refine wpList_store_row (by rfl) 98 _ _ (by rfl) _ #[_, _, _, _] (by rfl) (by rfl) 98 #[.string ⟨#[]⟩, .nilFunc, .nilFunc, .nilFunc] (heap_new _ _) (by kernel_rfl) (by rfl) (by kernel_rfl) ?_; rw [setRow_new]))
        all_goals go_meet
        all_goals
          have hbb := hb'.out.alloc hb'.out.size (Obj.cells #[Value.string nm, Value.nilFunc, Value.nilFunc, Value.nilFunc] 98)
          refine ⟨_, rfl, ?_, (HT.out.1.step hb'.out).step ((Below.refl _ _).alloc (Nat.le_refl _) _), (HT.out.2.step hb'.out).step ((Below.refl _ _).alloc (Nat.le_refl _) _), (HA.out.step hb'.out).alloc _⟩
        · exact .inr ⟨hi.out, by rw [cell_of_block (heap_new _ _)]; rfl⟩
        · exact .inl ⟨hi.out, g, by rw [cell_of_block (heap_new _ _)]; rfl⟩
        · exact .inr ⟨hi.out, by rw [cell_of_block (heap_new _ _)]; rfl⟩
        · exact .inr ⟨hi.out, by rw [cell_of_block (heap_new _ _)]; rfl⟩
      case rest =>
        obtain ⟨B2, rfl, HO2, HT2, HI2, HA2⟩ := hcut
        clear a0 a1 a2 a3 a4 HA HT
        have HA := Lib.hid HA2
        clear HA2
        obtain ⟨a0, a1, a2, a3, a4⟩ := HA.out.cells
        have e1 : ∀ (g : Nat) (W : World), (binOp .neq 95 (.func (.func g) #[] #[]) .nilFunc).run Tryz.prog W = .ok (.bool true) W := fun g W => by rfl
        have e2 : ∀ (W : World), (binOp .neq 95 .nilFunc .nilFunc).run Tryz.prog W = .ok (.bool false) W := fun W => by rfl
        have e3 : ∀ (g : Nat) (W : World), (binOp .eql 96 (.func (.func g) #[] #[]) .nilFunc).run Tryz.prog W = .ok (.bool false) W := fun g W => by rfl
        have e4 : ∀ (W : World), (binOp .eql 96 .nilFunc .nilFunc).run Tryz.prog W = .ok (.bool true) W := fun W => by rfl
        rcases HT2 with ⟨ht, g, hc, htf⟩ | ⟨ht, hc⟩
        · have h1 := e1 g wc
          clear e1 e2 e3 e4 HI2 HO2
          have HTF := Lib.hid htf
          have HR := Lib.hid (show evalB t X = (((textOf t.field.toNat X).toList == t.text.toList) == (t.op == 1)) by rw [HE.out, if_neg (by rw [HQ.out]; simp), if_pos ht])
          have hen := htf.1
          clear htf ht
          have hcall := fun n => HTF.out.2 X (w.heap.size + 1) (wc.drewN n) HA.out.xb
          go_upto_region 6 with fail
          go_quiet (first | (go_at_fn g; exact Calls.quiet_of (hcall _)))
          go_wp2
          all_goals (go_ret; refine ⟨ret_bool ?_, pw_drewN HA.out.below _⟩; rw [HR.out])
        · have h2 := e2 wc
          have hnum := num_of_check t HQ.out ht
          have HNUM := Lib.hid hnum
          have HR := Lib.hid (show evalB t X = if !itemF t.field && !itemF t.other then holdsB t X itemZ else X.items.any (holdsB t X) by rw [HE.out, if_neg (by rw [HQ.out]; simp), if_neg (by rw [ht]; simp)])
          clear e1 e2 ht hnum
          have hitems : ∀ (W : World), Below wc.heap.size wc W → Calls Tryz.prog 63 #[.slice X.ia X.items.length X.ic, .func (.func 64) #[] #[.pointer (some ⟨w.heap.size, 0, none⟩), .pointer (some ⟨w.heap.size + 1, 0, none⟩)]] W (HoldsPost W (X.items.any (holdsB t X))) := by
            intro W hW
            have hb1 : Below w.heap.size w W := HA.out.below.trans (hW.mono HA.out.below.size)
            refine c_containsItem X.ia X.ic X.items 64 #[.pointer (some ⟨w.heap.size, 0, none⟩), .pointer (some ⟨w.heap.size + 1, 0, none⟩)] (enters_of Tryz.func64 (by kernel_rfl) rfl) (holdsB t X) W (HI.out.below hb1 (Nat.le_refl _)) (fun W2 it h2 _ => ?_)
            have hst := (HA.out.step hW).step h2
            exact c_eval1 t X it _ _ W2 HNUM.out hst.tb hst.xb
          have HIT := Lib.hid (hitems wc (Below.refl _ _))
          clear hitems
          have k23 := cell_of_block HA.out.xb 23
          simp at k23
          have hz := c_holds t X itemZ (w.heap.size + 1) wc HNUM.out HA.out.xb
          have HZ := Lib.hid hz
          clear hz
          rcases HI2 with ⟨hi, gi, hci⟩ | ⟨hi, hci⟩
          · have h3 := e3 gi wc
            have hit := HIT.out
            rw [hi] at HR
            clear e3 e4 HO2 hi
            go_wp2_with (go_at_call 63; refine hit.mono ?_; rintro e w' ⟨rfl, hb'⟩)
            go_ret
            exact ⟨ret_bool HR.out.symm, HA.out.below.trans (hb'.mono HA.out.below.size)⟩
          · have h4 := e4 wc
            rw [hi] at HR
            clear e4 hi
            rcases HO2 with ⟨ho, go, hco⟩ | ⟨ho, hco⟩
            · have h3 := e3 go wc
              have hit := HIT.out
              rw [ho] at HR
              clear e3 ho
              go_wp2_with (go_at_call 63; refine hit.mono ?_; rintro e w' ⟨rfl, hb'⟩)
              go_ret
              exact ⟨ret_bool HR.out.symm, HA.out.below.trans (hb'.mono HA.out.below.size)⟩
            · rw [ho] at HR
              clear e3 ho
              have hzz := HZ.out
              go_wp2_with (go_at_call 62; refine hzz.mono ?_; rintro e w' ⟨rfl, hb'⟩)
              go_ret
              exact ⟨ret_bool HR.out.symm, HA.out.below.trans (hb'.mono HA.out.below.size)⟩
end Go.Proofs.YtnbfenapnfbmeaaGreat
