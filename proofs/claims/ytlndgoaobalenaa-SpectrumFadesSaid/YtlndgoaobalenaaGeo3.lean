/- Walks: a point on a segment; paths that cross walls. -/
import Derived.Test.YtlndgoaobalenaaGeo1
namespace Go.Proofs.Ytlndgoaobalenaa
open Go.RowKit
attribute [local go_sem high] max2_mx min2_mn max_two min_two
set_option linter.unusedVariables false
set_option linter.unusedSimpArgs false
set_option maxHeartbeats 4000000
set_option maxRecDepth 100000
theorem gTurnX (ax ay bx b_y cx cy : Int) (w : World) : Calls Try.prog 97 #[.agg #[.int .i64 ax, .int .i64 ay], .agg #[.int .i64 bx, .int .i64 b_y], .agg #[.int .i64 cx, .int .i64 cy]] w fun e w' => e = .returned (.int .i64 (turnW ⟨ax, ay⟩ ⟨bx, b_y⟩ ⟨cx, cy⟩)) ∧ Below w.heap.size w w' := gTurnW ⟨ax, ay⟩ ⟨bx, b_y⟩ ⟨cx, cy⟩ w
theorem gWithinX (px py ax ay bx b_y : Int) (w : World) : Calls Try.prog 98 #[.agg #[.int .i64 px, .int .i64 py], .agg #[.int .i64 ax, .int .i64 ay], .agg #[.int .i64 bx, .int .i64 b_y]] w fun e w' => e = .returned (.bool (withinB ⟨ax, ay⟩ ⟨bx, b_y⟩ ⟨px, py⟩)) ∧ Below w.heap.size w w' := gWithin ⟨px, py⟩ ⟨ax, ay⟩ ⟨bx, b_y⟩ w
theorem gOnX (px py ax ay bx b_y : Int) (w : World) : Calls Try.prog 96 #[.agg #[.int .i64 px, .int .i64 py], .agg #[.int .i64 ax, .int .i64 ay], .agg #[.int .i64 bx, .int .i64 b_y]] w fun e w' => e = .returned (.bool (onW ⟨px, py⟩ ⟨ax, ay⟩ ⟨bx, b_y⟩)) ∧ Below w.heap.size w w' := by
  have hu := Try.underlying27
  by_cases e1 : px = ax
  · subst e1
    by_cases e2 : py = ay
    · subst e2
      go_enter Try.func96, Try.ntmps96
      go_wp2
      go_ret
      exact ⟨ret_bool (by simp [onW]), by (repeat (first | exact Below.refl _ _ | assumption | apply b_alloc | apply b_drewN | apply b_drew))⟩
    · by_cases e3 : px = bx
      · subst e3
        by_cases e4 : py = b_y
        · subst e4
          go_enter Try.func96, Try.ntmps96
          go_wp2
          go_ret
          exact ⟨ret_bool (by simp [onW]), by (repeat (first | exact Below.refl _ _ | assumption | apply b_alloc | apply b_drewN | apply b_drew))⟩
        · go_enter Try.func96, Try.ntmps96
          go_wp2_with fail
          refine (gTurnX _ _ _ _ _ _ _).mono ?_
          rintro e w1 ⟨rfl, hb⟩
          obtain ⟨hc, hf⟩ := bcell hb
          have hbw : Below w.heap.size w w1 := b_then (by (repeat (first | exact Below.refl _ _ | assumption | apply b_alloc | apply b_drewN | apply b_drew))) hb
          go_wp2_with fail
          · refine (gWithinX _ _ _ _ _ _ _).mono ?_
            rintro e w2 ⟨rfl, hb2⟩
            go_wp2
            go_ret
            exact ⟨ret_bool (by simp [onW, *]), b_then hbw hb2⟩
          · go_ret
            exact ⟨ret_bool (by simp [onW, *]), hbw⟩
      · go_enter Try.func96, Try.ntmps96
        go_wp2_with fail
        refine (gTurnX _ _ _ _ _ _ _).mono ?_
        rintro e w1 ⟨rfl, hb⟩
        obtain ⟨hc, hf⟩ := bcell hb
        have hbw : Below w.heap.size w w1 := b_then (by (repeat (first | exact Below.refl _ _ | assumption | apply b_alloc | apply b_drewN | apply b_drew))) hb
        go_wp2_with fail
        · refine (gWithinX _ _ _ _ _ _ _).mono ?_
          rintro e w2 ⟨rfl, hb2⟩
          go_wp2
          go_ret
          exact ⟨ret_bool (by simp [onW, *]), b_then hbw hb2⟩
        · go_ret
          exact ⟨ret_bool (by simp [onW, *]), hbw⟩
  · by_cases e3 : px = bx
    · subst e3
      by_cases e4 : py = b_y
      · subst e4
        go_enter Try.func96, Try.ntmps96
        go_wp2
        go_ret
        exact ⟨ret_bool (by simp [onW]), by (repeat (first | exact Below.refl _ _ | assumption | apply b_alloc | apply b_drewN | apply b_drew))⟩
      · go_enter Try.func96, Try.ntmps96
        go_wp2_with fail
        refine (gTurnX _ _ _ _ _ _ _).mono ?_
        rintro e w1 ⟨rfl, hb⟩
        obtain ⟨hc, hf⟩ := bcell hb
        have hbw : Below w.heap.size w w1 := b_then (by (repeat (first | exact Below.refl _ _ | assumption | apply b_alloc | apply b_drewN | apply b_drew))) hb
        go_wp2_with fail
        · refine (gWithinX _ _ _ _ _ _ _).mono ?_
          rintro e w2 ⟨rfl, hb2⟩
          go_wp2
          go_ret
          exact ⟨ret_bool (by simp [onW, *]), b_then hbw hb2⟩
        · go_ret
          exact ⟨ret_bool (by simp [onW, *]), hbw⟩
    · go_enter Try.func96, Try.ntmps96
      go_wp2_with fail
      refine (gTurnX _ _ _ _ _ _ _).mono ?_
      rintro e w1 ⟨rfl, hb⟩
      obtain ⟨hc, hf⟩ := bcell hb
      have hbw : Below w.heap.size w w1 := b_then (by (repeat (first | exact Below.refl _ _ | assumption | apply b_alloc | apply b_drewN | apply b_drew))) hb
      go_wp2_with fail
      · refine (gWithinX _ _ _ _ _ _ _).mono ?_
        rintro e w2 ⟨rfl, hb2⟩
        go_wp2
        go_ret
        exact ⟨ret_bool (by simp [onW, *]), b_then hbw hb2⟩
      · go_ret
        exact ⟨ret_bool (by simp [onW, *]), hbw⟩
theorem gOnW (p a b : Pt) (w : World) : Calls Try.prog 96 #[.agg #[.int .i64 (p).x, .int .i64 (p).y], .agg #[.int .i64 (a).x, .int .i64 (a).y], .agg #[.int .i64 (b).x, .int .i64 (b).y]] w fun e w' => e = .returned (.bool (onW p a b)) ∧ Below w.heap.size w w' := gOnX p.x p.y a.x a.y b.x b.y w
end Go.Proofs.Ytlndgoaobalenaa
