/- Contracts: copies in new memory (package own): the tests of a rule, a rule. -/
import Derived.Test.YtnbfenapnfbmeaaGreatC9
import Derived.WalkSpells
set_option linter.unusedSimpArgs false
set_option linter.unusedVariables false
namespace Go.Proofs.YtnbfenapnfbmeaaGreat
open Go.RowKit
/-- A row of tests that a call made. -/
def TestsPost (w : World) (ts : List Test) (e : Ending) (w' : World) : Prop := ∃ v : Value, e = .returned v ∧ OwnRow w' w.heap.size tTest 5 Test.cells v ts ∧ Below w.heap.size w w'
theorem own_empty (w : World) (E : TypeId) (sz B : Nat) (hB : B ≤ w.heap.size) : (w.alloc (.cells #[] E)).ownsRow B E sz (.slice (some ⟨w.heap.size, 0, none⟩) 0 0) 0 [] := World.ownsRow_made w #[] 0 hB (Nat.zero_le _) (by simp)
set_option maxRecDepth 100000 in
set_option maxHeartbeats 1000000 in
theorem c_cloneTests (ad : Addr) (c : Nat) (ts : List Test) (w : World) (hl : TestsAt w (some ad) ts) :
    Calls Tryz.prog 92 #[.slice (some ad) ts.length c] w (TestsPost w ts) := by
  have hl1 := hl.1
  have HL := Lib.hid hl
  clear hl
  obtain ⟨i0, hi, hz0, hz1, hz2⟩ := info_parts info_test
  have HI := Lib.hid hi
  clear hi
  have hnil := fun w => Lib.run_eql_slice_nil (P := Tryz.prog) w 46 75 (some ad) ts.length c 0 0 Tryz.underlying46
  simp at hnil
  go_enter Tryz.func92, Tryz.ntmps92
  go_wp2_with (at_builtin; refine append_row rfl _ _ 46 rfl tTest i0 _ 5 48 Tryz.underlying46 HI.out hz0 hz1 hz2 rfl (by decide) w.heap.size (.slice (some ⟨w.heap.size, 0, none⟩) 0 0) 0 [] rfl (own_empty w tTest 5 w.heap.size (Nat.le_refl _)) Test.cells ts (fun _ => rfl) one_test (some ad) c rfl (fun h => nomatch h) (HL.out.2.keep (Keeps.below (Below.alloc (Below.refl _ _) (Nat.le_refl _) _) (Nat.le_refl _))) (by unfold maxLen; omega) (by omega) (by simp) ?_; intro v' w1 hown hg; have HO := Lib.hid hown; have HG := Lib.hid hg; clear hown hg)
  go_ret
  refine ⟨v', rfl, ?_, ?_⟩
  · have h := HO.out
    rw [Nat.zero_add, List.nil_append] at h
    exact h
  · exact (Below.alloc (Below.refl _ _) (Nat.le_refl _) _).grown HG.out (by simp) (fun k hk => by simp [Value.ownBlock] at hk; omega)
set_option maxRecDepth 100000 in
set_option maxHeartbeats 1000000 in
theorem c_listTests (a : Option Addr) (c : Nat) (ts : List Test) (w : World) (hl : TestsAt w a ts) :
    Calls Tryz.prog 75 #[.slice a ts.length c] w (TestsPost w ts) := by
  have hl1 := hl.1
  rcases (by omega : ts.length = 0 ∨ 0 < ts.length) with h0 | h0
  · have he : ts = [] := List.length_eq_zero_iff.1 h0
    subst he
    clear h0 hl hl1
    go_enter Tryz.func75, Tryz.ntmps75
    go_wp2
    go_ret
    exact ⟨_, rfl, World.ownsRow_nil _ _ _ _, Below.refl _ _⟩
  · obtain ⟨b, off, cs, fz, ha, _⟩ := hl.2 0 h0
    subst ha
    have hq : ((ts.length : Int) == 0) = false := by simp; intro h; rw [h] at h0; simp at h0
    have hcall := c_cloneTests ⟨b, off, none⟩ c ts w hl
    clear hl
    go_enter Tryz.func75, Tryz.ntmps75
    go_wp2_with (go_at_call 92; refine hcall.mono ?_; rintro e w' ⟨v, rfl, ho, hb⟩)
    go_ret
    exact ⟨v, rfl, ho, hb⟩
set_option maxRecDepth 100000 in
set_option maxHeartbeats 1000000 in
theorem c_ownRule (r : Rule) (w : World) (hr : RuleAt w r) :
    Calls Tryz.prog 48 #[r.v] w (CopyPost w r) := by
  have HR := Lib.hid hr
  clear hr
  have HB0 : Hid (Below w.heap.size w ((w.alloc (ruleBox r)).alloc (.cells #[.int .i64 0, .int .i64 0, .int .u64 0, .slice none 0 0, .int .i64 0, .string ⟨#[]⟩, .int .i64 0, .string ⟨#[]⟩] tRule))) := Lib.hid (((Below.refl _ w).alloc (Nat.le_refl _) _).alloc (by simp) _)
  have h0 : ∀ o, ((w.alloc (ruleBox r)).alloc o).heap[w.heap.size]? = some (ruleBox r) := fun o => by rw [Below.heap_alloc _ _ _ (by simp)]; exact heap_new _ _
  have h1 : ∀ o, ((w.alloc (ruleBox r)).alloc o).heap[w.heap.size + 1]? = some o := fun o => by have := heap_new (w.alloc (ruleBox r)) o; rwa [World.size_alloc] at this
  go_enter Tryz.func48, Tryz.ntmps48
  go_wp2_with (go_at_call 75; refine (c_listTests r.ta r.tc r.tests _ (HR.out.1.keep (Keeps.below HB0.out (Nat.le_refl _)))).mono ?_; rintro e w1 ⟨v, rfl, hown, hb1⟩; obtain ⟨a1, n1, rfl, hn1, hrow⟩ := hown.shape (fun _ => rfl); have gb0 := (hb1.block w.heap.size (by simp; omega)).trans (h0 _); have gb1 := (hb1.block (w.heap.size + 1) (by simp)).trans (h1 _); have f0 := frozen_of_block gb0; have f1 := frozen_of_block gb1; have c00 := cell_of_block gb0 0; have c01 := cell_of_block gb0 1; have c02 := cell_of_block gb0 2; have c03 := cell_of_block gb0 3; have c04 := cell_of_block gb0 4; have c05 := cell_of_block gb0 5; have c06 := cell_of_block gb0 6; have c07 := cell_of_block gb0 7; have c10 := cell_of_block gb1 0; have c11 := cell_of_block gb1 1; have c12 := cell_of_block gb1 2; have c13 := cell_of_block gb1 3; have c14 := cell_of_block gb1 4; have c15 := cell_of_block gb1 5; have c16 := cell_of_block gb1 6; have c17 := cell_of_block gb1 7; simp at c00 c01 c02 c03 c04 c05 c06 c07 c10 c11 c12 c13 c14 c15 c16 c17; clear gb0 gb1; have HOWN := Lib.hid hown; have HB1 := Lib.hid hb1; have HROW := Lib.hid hrow; have HN1 := Lib.hid hn1; clear hown hb1 hrow hn1)
  have HO2 := HOWN.out
  rw [World.size_alloc, World.size_alloc] at HO2
  have HB2 := HB1.out
  have HBF : Hid (Below w.heap.size w w1) := Lib.hid (Below.trans HB0.out (HB2.mono (by simp; omega)))
  refine bodyPost_ret (v := Rule.v { r with ta := a1, tc := n1 }) (by simp [results, Tryz.results48, go_sem, c00, c01, c02, c03, c04, c05, c06, c07, c10, c11, c12, c13, c14, c15, c16, c17]) rfl ?_
  refine ⟨{ r with ta := a1, tc := n1 }, rfl, rfl, ⟨⟨HR.out.1.1, ?_⟩, HN1.out, ?_, HR.out.2.2.2⟩, ?_⟩
  · have h2 := HO2.of_heap (w' := ((((((((w1.setCell { block := w.heap.size, off := 3 } (Value.slice a1 r.tests.length n1)).setCell { block := w.heap.size + 1, off := 0 } (Value.int IntKind.i64 r.list)).setCell { block := w.heap.size + 1, off := 1 } (Value.int IntKind.i64 r.action)).setCell { block := w.heap.size + 1, off := 2 } (Value.int IntKind.u64 r.calls)).setCell { block := w.heap.size + 1, off := 3 } (Value.slice a1 r.tests.length n1)).setCell { block := w.heap.size + 1, off := 4 } (Value.int IntKind.i64 r.watch)).setCell { block := w.heap.size + 1, off := 5 } (Value.string r.path)).setCell { block := w.heap.size + 1, off := 6 } (Value.int IntKind.i64 r.perm)).setCell { block := w.heap.size + 1, off := 7 } (Value.string r.key)) (fun k hk => by
      repeat rw [heap_setCell' _ _ _ _ k (by omega)])
    obtain ⟨a2, c2, e2, _, hrow2⟩ := h2.shape (fun _ => rfl)
    cases e2
    exact hrow2
  · have h3 := HO2.cap_le
    exact h3
  · refine Below.setCell (Below.setCell (Below.setCell (Below.setCell (Below.setCell (Below.setCell (Below.setCell (Below.setCell (Below.setCell HBF.out ?_ _) ?_ _) ?_ _) ?_ _) ?_ _) ?_ _) ?_ _) ?_ _) ?_ _ <;> (first | exact Nat.le_refl _ | exact Nat.le_succ _)
end Go.Proofs.YtnbfenapnfbmeaaGreat
