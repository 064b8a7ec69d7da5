/- Walks of the smallest functions: points, powers, channels, intervals. -/
import Derived.Test.YtlndgoaobalenaaSpec
namespace Go.Proofs.Ytlndgoaobalenaa
open Go.RowKit
attribute [local go_sem high] max2_mx min2_mn max_two min_two
set_option linter.unusedVariables false
set_option linter.unusedSimpArgs false
set_option maxHeartbeats 1000000
set_option maxRecDepth 100000
theorem r05Point (p : Pt) (w : World) : Calls Try.prog 66 #[.agg #[.int .i64 (p).x, .int .i64 (p).y]] w fun e w' => e = .returned (.bool (ptB p)) ∧ Below w.heap.size w w' := by
  have hu := Try.underlying27
  go_enter Try.func66, Try.ntmps66
  go_wp2
  all_goals (go_ret; exact ⟨ret_bool (by rw [Bool.eq_iff_iff]; simp [ptB]; try omega), by (repeat (first | exact Below.refl _ _ | assumption | apply b_alloc | apply b_drewN | apply b_drew))⟩)
theorem gPoint (p : Pt) (w : World) : Calls Try.prog 69 #[.agg #[.int .i64 (p).x, .int .i64 (p).y]] w fun e w' => e = .returned (.bool (ptB p)) ∧ Below w.heap.size w w' := by
  have hu := Try.underlying27
  go_enter Try.func69, Try.ntmps69
  go_wp2
  all_goals (go_ret; exact ⟨ret_bool (by rw [Bool.eq_iff_iff]; simp [ptB]; try omega), by (repeat (first | exact Below.refl _ _ | assumption | apply b_alloc | apply b_drewN | apply b_drew))⟩)
theorem r04Is (n : Int) (w : World) : Calls Try.prog 67 #[.int .i64 n] w fun e w' => e = .returned (.bool (powB n)) ∧ w = w' := by
  go_enter Try.func67, Try.ntmps67
  go_wp2
  all_goals (go_ret; exact ⟨ret_bool (by rw [Bool.eq_iff_iff]; simp [powB]; try omega), rfl⟩)
theorem gIsPower (n : Int) (w : World) : Calls Try.prog 73 #[.int .i64 n] w fun e w' => e = .returned (.bool (powB n)) ∧ w = w' := by
  go_enter Try.func73, Try.ntmps73
  go_wp2
  all_goals (go_ret; exact ⟨ret_bool (by rw [Bool.eq_iff_iff]; simp [powB]; try omega), rfl⟩)
theorem pPower (n : Int) (w : World) : Calls Try.prog 82 #[.int .i64 n] w fun e w' => e = .returned (.bool (powB n)) ∧ w = w' := by
  go_enter Try.func82, Try.ntmps82
  go_wp2
  all_goals (go_ret; exact ⟨ret_bool (by rw [Bool.eq_iff_iff]; simp [powB]; try omega), rfl⟩)
theorem r04Right (a b : Int) (w : World) : Calls Try.prog 88 #[.int .i64 a, .int .i64 b] w fun e w' => e = .returned (.bool (rightB a b)) ∧ w = w' := by
  go_enter Try.func88, Try.ntmps88
  go_wp2
  all_goals (go_ret; exact ⟨ret_bool (by rw [Bool.eq_iff_iff]; simp [rightB]; try omega), rfl⟩)
theorem sChannel (n : Int) (w : World) : Calls Try.prog 45 #[.int .i64 n] w fun e w' => e = .returned (.bool (chB n)) ∧ w = w' := by
  go_enter Try.func45, Try.ntmps45
  go_wp2
  all_goals (go_ret; exact ⟨ret_bool (by rw [Bool.eq_iff_iff]; simp [chB]; try omega), rfl⟩)
theorem r06Channel (n : Int) (w : World) : Calls Try.prog 50 #[.int .i64 n] w fun e w' => e = .returned (.bool (chB n)) ∧ w = w' := by
  go_enter Try.func50, Try.ntmps50
  go_wp2
  all_goals (go_ret; exact ⟨ret_bool (by rw [Bool.eq_iff_iff]; simp [chB]; try omega), rfl⟩)
theorem sInterval (a b : Int) (w : World) : Calls Try.prog 41 #[.int .i64 a, .int .i64 b] w fun e w' => e = .returned (.bool (ivB a b)) ∧ w = w' := by
  go_enter Try.func41, Try.ntmps41
  go_wp2
  all_goals (go_ret; exact ⟨ret_bool (by rw [Bool.eq_iff_iff]; simp [ivB]; try omega), rfl⟩)
theorem r06Interval (a b : Int) (w : World) : Calls Try.prog 43 #[.int .i64 a, .int .i64 b] w fun e w' => e = .returned (.bool (ivB a b)) ∧ w = w' := by
  go_enter Try.func43, Try.ntmps43
  go_wp2
  all_goals (go_ret; exact ⟨ret_bool (by rw [Bool.eq_iff_iff]; simp [ivB]; try omega), rfl⟩)
/-! ### Segments -/
theorem gSquareW (a b : Pt) (w : World) : Calls Try.prog 86 #[.agg #[.int .i64 (a).x, .int .i64 (a).y], .agg #[.int .i64 (b).x, .int .i64 (b).y]] w fun e w' => e = .returned (.int .i64 (squareW a b)) ∧ Below w.heap.size w w' := by
  have hu := Try.underlying27
  go_enter Try.func86, Try.ntmps86
  go_wp2
  go_quiet (fail)
  go_wp2
  all_goals (go_ret; exact ⟨ret_int (by simp [squareW]; try omega), by (repeat (first | exact Below.refl _ _ | assumption | apply b_alloc | apply b_drewN | apply b_drew))⟩)
theorem r05SquareW (a b : Pt) (w : World) : Calls Try.prog 89 #[.agg #[.int .i64 (a).x, .int .i64 (a).y], .agg #[.int .i64 (b).x, .int .i64 (b).y]] w fun e w' => e = .returned (.int .i64 (squareW a b)) ∧ Below w.heap.size w w' := by
  have hu := Try.underlying27
  go_enter Try.func89, Try.ntmps89
  go_wp2
  all_goals (go_ret; exact ⟨ret_int (by simp [squareW]; try omega), by (repeat (first | exact Below.refl _ _ | assumption | apply b_alloc | apply b_drewN | apply b_drew))⟩)
theorem cIsNaN (n : Int) (w : World) : Calls Try.prog 100 #[.int .i64 n] w fun e w' => e = .returned (.bool false) ∧ w = w' := by
  go_enter Try.func100, Try.ntmps100
  go_wp2
  go_ret
  exact ⟨rfl, rfl⟩
theorem cCompare (a b : Int) (w : World) : Calls Try.prog 99 #[.int .i64 a, .int .i64 b] w fun e w' => e = .returned (.int .i64 (cmpI a b)) ∧ w = w' := by
  go_enter Try.func99, Try.ntmps99
  go_wp2_with (go_at_call 100; refine (cIsNaN _ _).mono ?_; rintro e w' ⟨rfl, rfl⟩)
  all_goals (go_ret; exact ⟨ret_int (by simp [cmpI]; try omega), rfl⟩)
theorem gTurnW (a b c : Pt) (w : World) : Calls Try.prog 97 #[.agg #[.int .i64 (a).x, .int .i64 (a).y], .agg #[.int .i64 (b).x, .int .i64 (b).y], .agg #[.int .i64 (c).x, .int .i64 (c).y]] w fun e w' => e = .returned (.int .i64 (turnW a b c)) ∧ Below w.heap.size w w' := by
  have hu := Try.underlying27
  go_enter Try.func97, Try.ntmps97
  go_wp2_with (go_at_call 99; refine (cCompare _ _ _).mono ?_; rintro e w' ⟨rfl, rfl⟩)
  all_goals (go_ret; exact ⟨ret_int (by simp [turnW]; try omega), by (repeat (first | exact Below.refl _ _ | assumption | apply b_alloc | apply b_drewN | apply b_drew))⟩)
theorem r05TurnW (a b c : Pt) (w : World) : Calls Try.prog 94 #[.agg #[.int .i64 (a).x, .int .i64 (a).y], .agg #[.int .i64 (b).x, .int .i64 (b).y], .agg #[.int .i64 (c).x, .int .i64 (c).y]] w fun e w' => e = .returned (.int .i64 (turnV a b c)) ∧ Below w.heap.size w w' := by
  have hu := Try.underlying27
  go_enter Try.func94, Try.ntmps94
  go_wp2
  all_goals (go_ret; exact ⟨ret_int (by simp [turnV]; try omega), by (repeat (first | exact Below.refl _ _ | assumption | apply b_alloc | apply b_drewN | apply b_drew))⟩)
theorem gWithin (p a b : Pt) (w : World) : Calls Try.prog 98 #[.agg #[.int .i64 (p).x, .int .i64 (p).y], .agg #[.int .i64 (a).x, .int .i64 (a).y], .agg #[.int .i64 (b).x, .int .i64 (b).y]] w fun e w' => e = .returned (.bool (withinB a b p)) ∧ Below w.heap.size w w' := by
  have hu := Try.underlying27
  go_enter Try.func98, Try.ntmps98
  go_wp2
  all_goals (go_ret; exact ⟨ret_bool (by rw [Bool.eq_iff_iff]; simp [withinB]; try omega), by (repeat (first | exact Below.refl _ _ | assumption | apply b_alloc | apply b_drewN | apply b_drew))⟩)
theorem r05Within (a b p : Pt) (w : World) : Calls Try.prog 95 #[.agg #[.int .i64 (a).x, .int .i64 (a).y], .agg #[.int .i64 (b).x, .int .i64 (b).y], .agg #[.int .i64 (p).x, .int .i64 (p).y]] w fun e w' => e = .returned (.bool (withinB a b p)) ∧ Below w.heap.size w w' := by
  have hu := Try.underlying27
  go_enter Try.func95, Try.ntmps95
  go_wp2
  all_goals (go_ret; exact ⟨ret_bool (by rw [Bool.eq_iff_iff]; simp [withinB]; try omega), by (repeat (first | exact Below.refl _ _ | assumption | apply b_alloc | apply b_drewN | apply b_drew))⟩)
end Go.Proofs.Ytlndgoaobalenaa
