/- Contracts: the evaluation of tests, of an item (the program). -/
import Derived.Test.YtnbfenapnfbmeaaGreatG1
set_option linter.unusedSimpArgs false
set_option linter.unusedVariables false
namespace Go.Proofs.YtnbfenapnfbmeaaGreat
open Go.RowKit
def otherOf (t : Test) (X : Ctx) (it : Item) : Int × Bool := if t.other == 0 then (t.num, true) else valOf t.other X it
def holdsB (t : Test) (X : Ctx) (it : Item) : Bool := (valOf t.field X it).2 && (otherOf t X it).2 && compareB t.op (valOf t.field X it).1 (otherOf t X it).1
/-- A test whose fields are numbers. -/
def NumTest (t : Test) : Prop := (1 ≤ t.field ∧ t.field ≤ 22 ∧ isText t.field = false) ∧ (t.other = 0 ∨ (1 ≤ t.other ∧ t.other ≤ 22 ∧ isText t.other = false))
abbrev testBox (t : Test) : Obj := .cells #[.int .i64 t.field, .int .i64 t.op, .int .i64 t.num, .string t.text, .int .i64 t.other] 75
abbrev ptrBox (p : Nat) : Obj := .cells #[.pointer (some ⟨p, 0, none⟩)] 101
def HoldsPost (w : World) (b : Bool) (e : Ending) (w' : World) : Prop := e = .returned (.bool b) ∧ Below w.heap.size w w'
/-- The boxes of 'holds' in a later world. -/
structure HoldsAt (w : World) (t : Test) (X : Ctx) (it : Item) (px : Nat) (W : World) : Prop where
  below : Below w.heap.size w W
  tb : W.heap[w.heap.size]? = some (testBox t)
  xb : W.heap[w.heap.size + 1]? = some (ptrBox px)
  ib : W.heap[w.heap.size + 2]? = some (itemBox it)
  hp : W.heap[px]? = some (ctxBox X)
theorem HoldsAt.step {w W W' : World} {t : Test} {X : Ctx} {it : Item} {px : Nat} (h : HoldsAt w t X it px W) (hb : Below W.heap.size W W') : HoldsAt w t X it px W' :=
  ⟨h.below.trans (hb.mono h.below.size), (hb.block _ (lt_of_some h.tb)).trans h.tb, (hb.block _ (lt_of_some h.xb)).trans h.xb, (hb.block _ (lt_of_some h.ib)).trans h.ib, (hb.block _ (lt_of_some h.hp)).trans h.hp⟩
theorem HoldsAt.new {w : World} {t : Test} {X : Ctx} {it : Item} {px : Nat} (hp : w.heap[px]? = some (ctxBox X)) : HoldsAt w t X it px (((w.alloc (testBox t)).alloc (ptrBox px)).alloc (itemBox it)) := by
  have h1 := heap_new w (testBox t)
  have h2 := heap_new (w.alloc (testBox t)) (ptrBox px)
  have h3 := heap_new ((w.alloc (testBox t)).alloc (ptrBox px)) (itemBox it)
  rw [World.size_alloc] at h2
  rw [World.size_alloc, World.size_alloc] at h3
  have hl := lt_of_some hp
  refine ⟨(((Below.refl _ w).alloc (Nat.le_refl _) _).alloc (by simp) _).alloc (by simp; omega) _, ?_, ?_, h3, ?_⟩
  · rw [Below.heap_alloc _ _ _ (by simp; omega), Below.heap_alloc _ _ _ (by simp)]; exact h1
  · rw [Below.heap_alloc _ _ _ (by simp)]; exact h2
  · rw [Below.heap_alloc _ _ _ (by simp; omega), Below.heap_alloc _ _ _ (by simp; omega), Below.heap_alloc _ _ _ hl]; exact hp
theorem HoldsAt.cells {w W : World} {t : Test} {X : Ctx} {it : Item} {px : Nat} (h : HoldsAt w t X it px W) :
    W.cell? ⟨w.heap.size, 0, none⟩ = some (.int .i64 t.field) ∧ W.cell? ⟨w.heap.size, 1, none⟩ = some (.int .i64 t.op) ∧ W.cell? ⟨w.heap.size, 2, none⟩ = some (.int .i64 t.num) ∧ W.cell? ⟨w.heap.size, 4, none⟩ = some (.int .i64 t.other) := by
  have c := cell_of_block h.tb
  exact ⟨c 0, c 1, c 2, c 4⟩
set_option maxRecDepth 100000 in
set_option maxHeartbeats 4000000 in
theorem c_holds (t : Test) (X : Ctx) (it : Item) (px : Nat) (w : World) (ht : NumTest t) (hp : w.heap[px]? = some (ctxBox X)) :
    Calls Tryz.prog 62 #[t.v, .pointer (some ⟨px, 0, none⟩), it.v] w (HoldsPost w (holdsB t X it)) := by
  have HA := Lib.hid (HoldsAt.new (t := t) (it := it) hp)
  have HT := Lib.hid ht
  have HH := Lib.hid (show holdsB t X it = ((valOf t.field X it).2 && (otherOf t X it).2 && compareB t.op (valOf t.field X it).1 (otherOf t X it).1) from rfl)
  have HO := Lib.hid (show otherOf t X it = if t.other == 0 then (t.num, true) else valOf t.other X it from rfl)
  have hget : ∀ n, 1 ≤ n → n ≤ 22 → isText n = false → ∀ W, HoldsAt w t X it px W → Calls Tryz.prog 84 #[.int .i64 n, .pointer (some ⟨w.heap.size + 2, 0, none⟩), .pointer (some ⟨w.heap.size + 1, 0, none⟩)] W (GetPost W (valOf n X it)) := fun n h1 h2 h3 W h => c_get n X it _ _ px W h.ib h.xb h.hp ⟨h1, h2⟩ h3
  have HG := Lib.hid hget
  clear ht hp hget
  obtain ⟨a0, a1, a2, a4⟩ := HA.out.cells
  cases hz : t.other == 0 with
  | true =>
    rw [hz, if_pos rfl] at HO
    go_enter Tryz.func62, Tryz.ntmps62
    go_wp2_with (first
      | (go_at_call_of 84 (Value.int IntKind.i64 t.field); refine (HG.out t.field HT.out.1.1 HT.out.1.2.1 HT.out.1.2.2 _ HA.out).mono ?_; rintro e w' ⟨rfl, hb'⟩; have HA' := Lib.hid (HA.out.step hb'); clear a0 a1 a2 a4 HA hb'; have HA := HA'; clear HA'; obtain ⟨a0, a1, a2, a4⟩ := HA.out.cells)
      | (go_at_call 85; refine (c_compare _ _ _ _).mono ?_; rintro e w' ⟨rfl, rfl⟩))
    all_goals
      go_ret
      refine ⟨ret_bool ?_, HA.out.below⟩
      rw [HH.out, HO.out]
      simp [*]
  | false =>
    rw [hz, if_neg (by simp)] at HO
    have HZ := Lib.hid (show 1 ≤ t.other ∧ t.other ≤ 22 ∧ isText t.other = false from HT.out.2.resolve_left (by simpa using hz))
    have hz2 : (t.other != 0) = true := by simp [bne, hz]
    go_enter Tryz.func62, Tryz.ntmps62
    go_wp2_with (first
      | (go_at_call_of 84 (Value.int IntKind.i64 t.field); refine (HG.out t.field HT.out.1.1 HT.out.1.2.1 HT.out.1.2.2 _ HA.out).mono ?_; rintro e w' ⟨rfl, hb'⟩; have HA' := Lib.hid (HA.out.step hb'); clear a0 a1 a2 a4 HA hb'; have HA := HA'; clear HA'; obtain ⟨a0, a1, a2, a4⟩ := HA.out.cells)
      | (go_at_call_of 84 (Value.int IntKind.i64 t.other); refine (HG.out t.other HZ.out.1 HZ.out.2.1 HZ.out.2.2 _ HA.out).mono ?_; rintro e w' ⟨rfl, hb'⟩; have HA' := Lib.hid (HA.out.step hb'); clear a0 a1 a2 a4 HA hb'; have HA := HA'; clear HA'; obtain ⟨a0, a1, a2, a4⟩ := HA.out.cells)
      | (go_at_call 85; refine (c_compare _ _ _ _).mono ?_; rintro e w' ⟨rfl, rfl⟩))
    all_goals
      go_ret
      refine ⟨ret_bool ?_, HA.out.below⟩
      rw [HH.out, HO.out]
      simp [*]
end Go.Proofs.YtnbfenapnfbmeaaGreat
