/- Contracts of the small functions of masks, fields and tests. -/
import Derived.Test.YtnbfenapnfbmeaaGreatB0
namespace Go.Proofs.YtnbfenapnfbmeaaGreat
open Go.RowKit

theorem ret_bool {a b : Bool} (h : a = b) : Ending.returned (.bool a) = .returned (.bool b) := by rw [h]
theorem ret_int {k : IntKind} {a b : Int} (h : a = b) : Ending.returned (.int k a) = .returned (.int k b) := by rw [h]

set_option maxHeartbeats 400000 in
theorem c_text (f : Int) (w : World) : Calls Tryz.prog 87 #[.int .i64 f] w fun e w' => e = .returned (.bool (isText f)) ∧ w = w' := by
  go_enter Tryz.func87, Tryz.ntmps87
  go_wp2
  all_goals (go_ret; simp_all [isText])

set_option maxHeartbeats 400000 in
theorem c_compared (f : Int) (w : World) : Calls Tryz.prog 94 #[.int .i64 f] w fun e w' => e = .returned (.bool (compared f)) ∧ w = w' := by
  go_enter Tryz.func94, Tryz.ntmps94
  go_wp2
  all_goals (go_ret; simp_all [compared])

set_option maxHeartbeats 1000000 in
theorem c_allowed (l f : Int) (w : World) : Calls Tryz.prog 93 #[.int .i64 l, .int .i64 f] w fun e w' => e = .returned (.bool (allowed l f)) ∧ w = w' := by
  go_enter Tryz.func93, Tryz.ntmps93
  go_wp2
  all_goals (go_ret; refine ⟨ret_bool ?_, rfl⟩; rw [Bool.eq_iff_iff]; (try simp only [beq_iff_eq, beq_eq_false_iff_ne] at *); simp [allowed, *]; (repeat' split)) <;> (try simp [*]) <;> omega

set_option maxHeartbeats 1000000 in
theorem c_fallowed (l f : Int) (w : World) : Calls Tryz.prog 81 #[.int .i64 l, .int .i64 f] w fun e w' => e = .returned (.bool (allowed l f)) ∧ w = w' := by
  go_enter Tryz.func81, Tryz.ntmps81
  go_wp2
  all_goals (go_ret; refine ⟨ret_bool ?_, rfl⟩; rw [Bool.eq_iff_iff]; (try simp only [beq_iff_eq, beq_eq_false_iff_ne] at *); simp [allowed, *]; try split) <;> (try simp [*]) <;> omega

set_option maxHeartbeats 1000000 in
theorem c_identity (f : Int) (w : World) : Calls Tryz.prog 82 #[.int .i64 f] w fun e w' => e = .returned (.bool (compared f)) ∧ w = w' := by
  go_enter Tryz.func82, Tryz.ntmps82
  go_wp2
  all_goals (go_ret; refine ⟨ret_bool ?_, rfl⟩; rw [Bool.eq_iff_iff]; simp [compared]; omega)

set_option maxHeartbeats 400000 in
theorem c_withCalls (l : Int) (w : World) : Calls Tryz.prog 69 #[.int .i64 l] w fun e w' => e = .returned (.bool (l == 2 || l == 3)) ∧ w = w' := by
  go_enter Tryz.func69, Tryz.ntmps69
  go_wp2
  all_goals (go_ret; simp_all)

set_option maxHeartbeats 400000 in
theorem c_mvalid (m : Int) (w : World) : Calls Tryz.prog 70 #[.int .u64 m] w fun e w' => e = .returned (.bool (maskValid m)) ∧ w = w' := by
  go_enter Tryz.func70, Tryz.ntmps70
  go_wp2
  all_goals (go_ret; exact ⟨rfl, rfl⟩)
set_option maxHeartbeats 400000 in
theorem c_rvalid (m : Int) (w : World) : Calls Tryz.prog 76 #[.int .u64 m] w fun e w' => e = .returned (.bool (maskValid m)) ∧ w = w' := by
  go_enter Tryz.func76, Tryz.ntmps76
  go_wp2
  all_goals (go_ret; exact ⟨rfl, rfl⟩)
set_option maxHeartbeats 400000 in
theorem c_mhas (m n : Int) (w : World) : Calls Tryz.prog 33 #[.int .u64 m, .int .i64 n] w fun e w' => e = .returned (.bool (maskHas m n)) ∧ w = w' := by
  go_enter Tryz.func33, Tryz.ntmps33
  go_wp2
  all_goals (go_ret; refine ⟨ret_bool ?_, rfl⟩; unfold maskHas; (repeat rw [if_pos (by assumption)]); (try rw [if_neg (by omega)]))
set_option maxHeartbeats 400000 in
theorem c_rhas (m n : Int) (w : World) : Calls Tryz.prog 37 #[.int .u64 m, .int .i64 n] w fun e w' => e = .returned (.bool (maskHas m n)) ∧ w = w' := by
  go_enter Tryz.func37, Tryz.ntmps37
  go_wp2
  all_goals (go_ret; refine ⟨ret_bool ?_, rfl⟩; unfold maskHas; (repeat rw [if_pos (by assumption)]); (try rw [if_neg (by omega)]))
end Go.Proofs.YtnbfenapnfbmeaaGreat
