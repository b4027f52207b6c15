/- Contracts: the check of a test (the reference). -/
import Derived.Test.YtnbfenapnfbmeaaGreatC1
namespace Go.Proofs.YtnbfenapnfbmeaaGreat
open Go.RowKit
set_option maxHeartbeats 4000000 in
theorem c_rtestCheck (t : Test) (l : Int) (w : World) : Calls Tryz.prog 77 #[t.v, .int .i64 l] w fun e w' => e = .returned (.int .i64 (testCheck t l)) ∧ Below w.heap.size w w' := by
  go_enter Tryz.func77, Tryz.ntmps77
  go_wp2_with (first | (go_at_call 93; refine (c_allowed _ _ _).mono ?_; rintro e w' ⟨rfl, rfl⟩) | (go_at_call 94; refine (c_compared _ _).mono ?_; rintro e w' ⟨rfl, rfl⟩) | (go_at_call 87; refine (c_text _ _).mono ?_; rintro e w' ⟨rfl, rfl⟩))
  all_goals (go_ret; refine ⟨ret_int ?_, (Below.refl _ w).alloc (Nat.le_refl _) _⟩; simp only [testCheck]; simp_all <;> omega)
end Go.Proofs.YtnbfenapnfbmeaaGreat
