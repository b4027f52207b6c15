/- Contracts: rules are looked for by a closure. -/
import Derived.Test.YtnbfenapnfbmeaaGreatD3
import Derived.Test.YtnbfenapnfbmeaaGreatC9
import Derived.Shelf.Abstract
set_option linter.unusedSimpArgs false
set_option linter.unusedVariables false
namespace Go.Proofs.YtnbfenapnfbmeaaGreat
open Go.RowKit
/-- The index of the first element of which a predicate of index and element holds, from k on, or -1. -/
def findIx {α : Type} (p : Nat → α → Bool) : Nat → List α → Int
  | _, [] => -1
  | k, x :: l => if p k x then k else findIx p (k + 1) l
theorem findIx_drop {α : Type} (p : Nat → α → Bool) (l : List α) (k : Nat) (h : k < l.length) : findIx p k (l.drop k) = if p k l[k] then (k : Int) else findIx p (k + 1) (l.drop (k + 1)) := by
  rw [List.drop_eq_getElem_cons h, findIx]
theorem findIx_const {α : Type} (p : α → Bool) (k : Nat) (l : List α) : findIx (fun _ x => p x) k l = findIdx p k l := by
  induction l generalizing k with
  | nil => rfl
  | cons x l ih => rw [findIx, findIdx, ih]
set_option maxRecDepth 100000 in
set_option maxHeartbeats 1000000 in
theorem c_index (a : Option Addr) (c : Nat) (rs : List Rule) (g : Nat) (lb : Array Value) (eg : ∀ args w, (callFunc g args).run Tryz.prog w = .ok (.enter g args) w) (p : Nat → Rule → Bool) (w : World) (hl : RulesAt w a rs)
    (hp : ∀ (W : World) (k : Nat) (x : Rule), Below w.heap.size w W → RuleAt W x → k < rs.length → Calls Tryz.prog g (#[.int .i64 k, x.v] ++ lb) W fun e w' => e = .returned (.bool (p k x)) ∧ Below W.heap.size W w') :
    Calls Tryz.prog 39 #[.slice a rs.length c, .func (.func g) #[] lb] w fun e w' => e = .returned (.int .i64 (findIx p 0 rs)) ∧ Below w.heap.size w w' := by
  have hl1 := hl.1
  have HL := Lib.hid hl
  have HP := Lib.hid hp
  clear hl hp
  go_enter Tryz.func39, Tryz.ntmps39
  go_wp2
  go_loopg [9] rs.length (fun gg i wr => ∃ k : Nat, k ≤ rs.length ∧ rs.length - k ≤ gg ∧ i = .int .i64 k ∧ Aside (findIx p 0 rs = findIx p k (rs.drop k)) ∧ Aside (Below w.heap.size w wr))
  case atStart => exact ⟨0, Nat.zero_le _, by omega, rfl, rfl, Below.refl _ _⟩
  case round =>
    obtain ⟨k, hk, hg, rfl, HT, HB⟩ := hrel
    by_cases hlt : k < rs.length
    · obtain ⟨b, o, ha, hb, hat, d0, d1, d2, d3, d4, d5, d6, d7⟩ := HL.out.at HB.out k hlt
      have hs := findIx_drop p rs k hlt
      generalize rs[k] = x at hat d0 d1 d2 d3 d4 d5 d6 d7 hs
      have HS := Lib.hid hs
      have hcall := fun (W : World) (hW : Below w.heap.size w W) => HP.out W k x hW (hat.below hW (Nat.le_refl _)) hlt
      clear hs hat
      have hl2 : (k : Int) < (rs.length : Int) := by omega
      subst ha
      cases hq : p k x with
      | true =>
        rw [hq] at HS
        simp only [hq] at hcall
        clear hq
        go_wp2_with (go_at_fn g; refine (hcall _ (Below.alloc HB.out HB.out.size _)).mono ?_; rintro e w' ⟨rfl, hb'⟩)
        go_ret
        exact ⟨ret_int (by rw [HT, HS.out, if_pos trivial]), (Below.alloc HB.out HB.out.size _).trans (hb'.mono (by simp; have := HB.out.size; omega))⟩
      | false =>
        rw [hq] at HS
        simp only [hq] at hcall
        clear hq
        go_wp2_with (go_at_fn g; refine (hcall _ (Below.alloc HB.out HB.out.size _)).mono ?_; rintro e w' ⟨rfl, hb'⟩)
        go_roundg (rs.length - (k + 1))
        case measure => omega
        case rel => exact ⟨k + 1, by omega, by omega, by go_num, (by show _ = _; rw [HT, HS.out]; simp), (Below.alloc HB.out HB.out.size _).trans (hb'.mono (by simp; have := HB.out.size; omega))⟩
    · have he : k = rs.length := by omega
      have hn : ¬ (k : Int) < (rs.length : Int) := by omega
      have hz : findIx p 0 rs = -1 := by rw [HT, he, List.drop_length]; rfl
      have HZ := Lib.hid hz
      clear hz he HT
      go_wp2
      go_ret
      exact ⟨ret_int HZ.out.symm, HB.out⟩
set_option maxRecDepth 100000 in
set_option maxHeartbeats 1000000 in
theorem c_find1 (k : Int) (x r : Rule) (B : Nat) (w : World) (hx : RuleAt w x) (hr : RuleAt w r) (hbox : w.heap[B]? = some (ruleBox r)) :
    Calls Tryz.prog 54 #[.int .i64 k, x.v, .pointer (some ⟨B, 0, none⟩)] w fun e w' => e = .returned (.bool (ruleEq x r)) ∧ Below w.heap.size w w' := by
  have HX := Lib.hid hx
  have HR := Lib.hid hr
  clear hx hr
  have hB := lt_of_some hbox
  have hb2 : (w.alloc (ruleBox x)).heap[B]? = some (ruleBox r) := (Below.heap_alloc w _ B hB).trans hbox
  have HB0 : Hid (Below w.heap.size w (w.alloc (ruleBox x))) := Lib.hid ((Below.refl _ w).alloc (Nat.le_refl _) _)
  have hcall := c_pequal x r (w.alloc (ruleBox x)) (HX.out.below HB0.out (Nat.le_refl _)) (HR.out.below HB0.out (Nat.le_refl _))
  have k0 := cell_of_block hb2 0
  have k1 := cell_of_block hb2 1
  have k2 := cell_of_block hb2 2
  have k3 := cell_of_block hb2 3
  have k4 := cell_of_block hb2 4
  have k5 := cell_of_block hb2 5
  have k6 := cell_of_block hb2 6
  have k7 := cell_of_block hb2 7
  rw [World.cell?_alloc_past _ _ _ hB] at k0 k1 k2 k3 k4 k5 k6 k7
  simp at k0 k1 k2 k3 k4 k5 k6 k7
  clear hbox hb2
  go_enter Tryz.func54, Tryz.ntmps54
  go_wp2_with (go_at_call 55; refine hcall.mono ?_; rintro e w' ⟨rfl, hb'⟩)
  go_ret
  exact ⟨rfl, HB0.out.trans (hb'.mono (by simp))⟩
set_option maxRecDepth 100000 in
set_option maxHeartbeats 1000000 in
theorem c_pfind (a : Option Addr) (c : Nat) (rs : List Rule) (r : Rule) (w : World) (hl : RulesAt w a rs) (hr : RuleAt w r) :
    Calls Tryz.prog 23 #[.slice a rs.length c, r.v] w fun e w' => e = .returned (.int .i64 (findRule rs r)) ∧ Below w.heap.size w w' := by
  have HB0 : Hid (Below w.heap.size w (w.alloc (ruleBox r))) := Lib.hid ((Below.refl _ w).alloc (Nat.le_refl _) _)
  have hbox := heap_new w (ruleBox r)
  have hcall := c_index a c rs 54 #[.pointer (some ⟨w.heap.size, 0, none⟩)] (enters_of Tryz.func54 (by kernel_rfl) rfl) (fun _ x => ruleEq x r) (w.alloc (ruleBox r)) (hl.below HB0.out (Nat.le_refl _))
    (fun W k x hW hx _ => c_find1 k x r w.heap.size W hx ((hr.below HB0.out (Nat.le_refl _)).below hW (Nat.le_refl _)) ((hW.block _ (by simp)).trans hbox))
  rw [findIx_const] at hcall
  clear hl hr hbox
  go_enter Tryz.func23, Tryz.ntmps23
  go_wp2_with (go_at_call 39; refine hcall.mono ?_; rintro e w' ⟨rfl, hb'⟩)
  go_ret
  exact ⟨rfl, HB0.out.trans (hb'.mono (by simp))⟩
end Go.Proofs.YtnbfenapnfbmeaaGreat
