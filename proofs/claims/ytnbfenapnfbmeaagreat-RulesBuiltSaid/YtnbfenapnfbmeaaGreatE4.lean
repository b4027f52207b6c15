/- Contracts: the test's check. -/
import Derived.Test.YtnbfenapnfbmeaaGreatE3
set_option linter.unusedSimpArgs false
set_option linter.unusedVariables false
namespace Go.Proofs.YtnbfenapnfbmeaaGreat
open Go.RowKit
theorem KnownR.shape {b : Nat} {w : World} {f : Int} {num text item : Value} {ok : Bool} (h : KnownR b w f num text item ok) :
    (isText f = true ∧ num = .nilFunc ∧ item = .nilFunc ∧ ∃ g, text = .func (.func g) #[] #[]) ∨ (isText f = false ∧ num = .nilFunc ∧ text = .nilFunc ∧ ∃ g, item = .func (.func g) #[] #[]) ∨
    (isText f = false ∧ text = .nilFunc ∧ item = .nilFunc ∧ ∃ g bs, num = .func (.func g) #[] bs) ∨ (isText f = false ∧ num = .nilFunc ∧ text = .nilFunc ∧ item = .nilFunc) := by
  by_cases hf : 1 ≤ f ∧ f ≤ 22
  · obtain ⟨_, hr⟩ := h.1 hf
    by_cases h1 : f.toNat = 13 ∨ f.toNat = 14
    · obtain ⟨a, b, g, c, _⟩ := hr.1 h1
      exact .inl ⟨by simp [isText]; omega, a, b, g, c⟩
    · have hn : isText f = false := by simp [isText]; omega
      by_cases h2 : 17 ≤ f.toNat ∧ f.toNat ≤ 21
      · obtain ⟨a, b, g, c, _⟩ := hr.2.1 h2
        exact .inr (.inl ⟨hn, a, b, g, c⟩)
      · obtain ⟨a, b, g, bs, c, _⟩ := hr.2.2 h1 h2
        exact .inr (.inr (.inl ⟨hn, a, b, g, bs, c⟩))
  · obtain ⟨_, a, b, c⟩ := h.2 hf
    exact .inr (.inr (.inr ⟨by simp [isText]; omega, a, b, c⟩))
theorem setRow_new (w : World) (t : TypeId) (old V : Array Value) : (w.alloc (.cells old t)).setRow w.heap.size V = w.alloc (.cells V t) := by
  have : (w.heap.push (Obj.cells old t)).modify w.heap.size (fun | .cells _ elem frozen => .cells V elem frozen | o => o) = w.heap.push (Obj.cells V t) := by
    apply Array.ext
    · simp
    · intro i h1 h2
      rw [Array.getElem_modify]
      by_cases hi : w.heap.size = i
      · subst hi; simp
      · have hlt : i < w.heap.size := by simp at h2; omega
        simp [hi, Array.getElem_push, hlt]
  exact congrArg (fun h => { w with heap := h }) this
set_option maxRecDepth 100000 in
set_option maxHeartbeats 4000000 in
theorem c_testCheck (t : Test) (l : Int) (w : World) : Calls Tryz.prog 60 #[t.v, .int .i64 l] w fun e w' => e = .returned (.int .i64 (testCheck t l)) ∧ Below w.heap.size w w' := by
  have HB := Lib.hid ((Below.refl w.heap.size w).alloc (Nat.le_refl _) (Obj.cells t.cells.toArray 75))
  go_enter Tryz.func60, Tryz.ntmps60
  go_upto_region 1 with fail
  go_cut [5, 6, 8, 9, 10, 11, 12, 13] (fun s5 s6 s8 s9 s10 s11 s12 s13 wc => ∃ B, s5 = .pointer (some ⟨B, 0, none⟩) ∧ Aside (isText t.field = true ∧ (∃ g, wc.cell? ⟨B, 2, none⟩ = some (.func (.func g) #[] #[])) ∨ isText t.field = false ∧ wc.cell? ⟨B, 2, none⟩ = some .nilFunc) ∧ Aside (Below w.heap.size (w.alloc (Obj.cells t.cells.toArray 75)) wc ∧ wc.heap[w.heap.size]? = some (Obj.cells t.cells.toArray 75)))
  case first =>
    go_wp2_with (first
    | (go_at_call 61; refine (c_known _ _).mono ?_; rintro e w' ⟨nm, num, text, item, ok, b, rfl, hk, hb'⟩
       replace hb' := Lib.hid hb'
       rcases hk.shape with ⟨ht, rfl, rfl, g, rfl⟩ | ⟨ht, rfl, rfl, g, rfl⟩ | ⟨ht, rfl, rfl, g, bs, rfl⟩ | ⟨ht, rfl, rfl, rfl⟩ <;> clear hk <;> replace ht := Lib.hid ht)
    | (refine wpList_store_row (by rfl) 98 _ _ (by rfl) _ #[_, _, _, _] (by rfl) (by rfl) 98 #[.string ⟨#[]⟩, .nilFunc, .nilFunc, .nilFunc] (heap_new _ _) (by kernel_rfl) (by rfl) (by kernel_rfl) ?_; rw [setRow_new]))
    all_goals go_meet
    all_goals
      have hbb := hb'.out
      have hsz := hbb.size
      simp only [World.size_alloc] at hsz
      refine ⟨_, rfl, ?_, (hbb.mono (by simp)).alloc (by omega) _, (Below.heap_alloc _ _ _ (by omega)).trans ((hbb.block w.heap.size (by simp)).trans (heap_new w _))⟩
    · exact .inl ⟨ht.out, g, by rw [cell_of_block (heap_new _ _)]; rfl⟩
    · exact .inr ⟨ht.out, by rw [cell_of_block (heap_new _ _)]; rfl⟩
    · exact .inr ⟨ht.out, by rw [cell_of_block (heap_new _ _)]; rfl⟩
    · exact .inr ⟨ht.out, by rw [cell_of_block (heap_new _ _)]; rfl⟩
  case rest =>
    obtain ⟨B, rfl, hcls, hb, hbox⟩ := hcut
    have k0 := cell_of_block hbox 0
    have k1 := cell_of_block hbox 1
    have k2 := cell_of_block hbox 2
    have k3 := cell_of_block hbox 3
    have k4 := cell_of_block hbox 4
    simp at k0 k1 k2 k3 k4
    have HBW := Lib.hid (HB.out.trans hb)
    clear hb hbox
    have e1 : ∀ (g : Nat) (W : World), (binOp .neq 95 (.func (.func g) #[] #[]) .nilFunc).run Tryz.prog W = .ok (.bool true) W := fun g W => by rfl
    have e2 : ∀ (W : World), (binOp .neq 95 .nilFunc .nilFunc).run Tryz.prog W = .ok (.bool false) W := fun W => by rfl
    rcases hcls with ⟨ht, g, kt⟩ | ⟨ht, kt⟩
    · have e3 := e1 g wc
      clear e1 e2
      have hc : compared t.field = false := by
        have h := ht
        simp [isText] at h
        rcases h with h | h <;> simp [compared, h]
      go_wp2_with (first | (go_at_call 81; refine (c_fallowed _ _ _).mono ?_; rintro e w' ⟨rfl, rfl⟩) | (go_at_call 82; refine (c_identity _ _).mono ?_; rintro e w' ⟨rfl, rfl⟩))
      all_goals (go_ret; refine ⟨ret_int ?_, HBW.out⟩; simp only [testCheck]; simp_all <;> omega)
    · have e3 := e2 wc
      clear e1 e2
      go_wp2_with (first | (go_at_call 81; refine (c_fallowed _ _ _).mono ?_; rintro e w' ⟨rfl, rfl⟩) | (go_at_call 82; refine (c_identity _ _).mono ?_; rintro e w' ⟨rfl, rfl⟩))
      all_goals (go_ret; refine ⟨ret_int ?_, HBW.out⟩; simp only [testCheck]; simp_all <;> omega)
end Go.Proofs.YtnbfenapnfbmeaaGreat
