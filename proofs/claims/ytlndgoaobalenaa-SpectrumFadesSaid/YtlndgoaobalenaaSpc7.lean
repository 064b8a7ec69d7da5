/- Walks: Factor. -/
import Derived.Test.YtlndgoaobalenaaSpc6
namespace Go.Proofs.Ytlndgoaobalenaa
open Go.RowKit
attribute [local go_sem high] max2_mx min2_mn max_two min_two
set_option linter.unusedVariables false
set_option linter.unusedSimpArgs false
set_option maxHeartbeats 4000000
set_option maxRecDepth 100000
theorem sFactor0 (x : Spm) (v : Value) (a b c t : Int) (w : World) (hx : SpmV w v x) : Calls Try.prog 54 #[v, .int .i64 a, .int .i64 b, .int .i64 c, .int .i64 t] w fun e w' => e = .returned (.int .i64 (factorI x a b c t)) ∧ Below w.heap.size w w' := by
  have hu := Try.underlying25
  obtain ⟨srcs, fds⟩ := x
  obtain ⟨v0, v1, rfl, h0, h1⟩ := hx
  dsimp only at *
  go_enter Try.func54, Try.ntmps54
  go_wp2_with fail
  refine (sLeast1 fds v1 (w.heap.size + 1) (w.heap.size + 1 + 1) (w.heap.size + 1 + 1 + 1) (w.heap.size + 1 + 1 + 1 + 1) a b c t _ (h1.mono KFd.st ?_) ?_ ?_ ?_ ?_).mono ?_
  · (repeat (first | exact Below.refl _ _ | assumption | apply b_alloc | apply b_drewN | apply b_drew))
  · go_simp
  · go_simp
  · go_simp
  · go_simp
  rintro e w2 ⟨rfl, hb2⟩
  go_wp2
  go_ret
  exact ⟨rfl, b_then (by (repeat (first | exact Below.refl _ _ | assumption | apply b_alloc | apply b_drewN | apply b_drew))) hb2⟩
theorem sFactor (x : Spm) (v : Value) (a b c t : Int) (w : World) (hx : SpmV w v x) : Calls Try.prog 26 #[v, .int .i64 a, .int .i64 b, .int .i64 c, .int .i64 t] w fun e w' => e = .returned (.tuple #[.int .i64 (facN x a b c t), .int .i64 (facE x a b c t)]) ∧ Below w.heap.size w w' := by
  have hu := Try.underlying25
  have hx' := Lib.hid hx
  obtain ⟨v0, v1, rfl, h0, h1⟩ := hx
  go_enter Try.func26, Try.ntmps26
  go_wp2_with fail
  have hbx : Below w.heap.size w (w.alloc (.cells #[v0, v1] 25)) := by (repeat (first | exact Below.refl _ _ | assumption | apply b_alloc | apply b_drewN | apply b_drew))
  refine (sCheck x _ _ (hx'.out.mono hbx)).mono ?_
  rintro e w2 ⟨rfl, hb2⟩
  have hbz := b_then hbx hb2
  have t0 := box_at hb2 rfl 0 rfl
  have t1 := box_at hb2 rfl 1 rfl
  rcases Bool.eq_false_or_eq_true (spmB x) with q | q
  · rw [q, okN_true]
    have Hq := Lib.hid q
    clear q
    go_wp2_with (first | (go_at_call 53; (with_reducible refine (sNode _ _).mono ?_); rintro e w' ⟨rfl, rfl⟩) | (go_at_call 45; (with_reducible refine (sChannel _ _).mono ?_); rintro e w' ⟨rfl, rfl⟩))
    all_goals first
      | (refine (sFactor0 x _ a b c t _ (hx'.out.mono hbz)).mono ?_
         rintro e w3 ⟨rfl, hb3⟩
         have he : facE x a b c t = 0 := by simp [facE, Hq.out, tmB, *]
         go_wp2
         go_ret2
         exact ⟨ret_two (by simp [facN, he]) (by simp [he]), b_then hbz hb3⟩)
      | (have he : facE x a b c t = 2 := by simp [facE, Hq.out, tmB, *]; try omega
         go_ret2
         exact ⟨ret_two (by simp [facN, he]) (by simp [he]), hbz⟩)
  · rw [q, okN_false]
    go_wp2
    go_ret2
    exact ⟨ret_two (by simp [facN, facE, q]) (by simp [facE, q]), hbz⟩
end Go.Proofs.Ytlndgoaobalenaa
