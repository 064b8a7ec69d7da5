/- Walks of the smallest functions: points, powers, channels, intervals. Walks: a point on a segment; paths that cross walls. Walk of geometry.Crosses. -/
import Derived.Test.YtpbhoeaadnemhaaGreatM1
import Derived.Deep.RegionHeld3
import Derived.Deep.RegionWith
namespace Go.Proofs.YtpbhoeaadnemhaaGreat
open Go.RowKit
attribute [local go_sem high] max2_mx min2_mn max_two min_two
set_option linter.unusedVariables false
set_option linter.unusedSimpArgs false
set_option maxHeartbeats 1000000
set_option maxRecDepth 100000
theorem r05Point (p : Pt) (w : World) : Calls Tryz.prog 61 #[.agg #[.int .i64 (p).x, .int .i64 (p).y]] w fun e w' => e = .returned (.bool (ptB p)) ∧ Below w.heap.size w w' := by
  have hu := Tryz.underlying54
  go_enter Tryz.func61, Tryz.ntmps61
  go_wp2
  all_goals (go_ret; exact ⟨ret_bool (by rw [Bool.eq_iff_iff]; simp [ptB]; try omega), by (repeat (first | exact Below.refl _ _ | assumption | apply b_alloc | apply b_drewN | apply b_drew))⟩)
theorem gPoint (p : Pt) (w : World) : Calls Tryz.prog 74 #[.agg #[.int .i64 (p).x, .int .i64 (p).y]] w fun e w' => e = .returned (.bool (ptB p)) ∧ Below w.heap.size w w' := by
  have hu := Tryz.underlying54
  go_enter Tryz.func74, Tryz.ntmps74
  go_wp2
  all_goals (go_ret; exact ⟨ret_bool (by rw [Bool.eq_iff_iff]; simp [ptB]; try omega), by (repeat (first | exact Below.refl _ _ | assumption | apply b_alloc | apply b_drewN | apply b_drew))⟩)
theorem r04Is (n : Int) (w : World) : Calls Tryz.prog 62 #[.int .i64 n] w fun e w' => e = .returned (.bool (powB n)) ∧ w = w' := by
  go_enter Tryz.func62, Tryz.ntmps62
  go_wp2
  all_goals (go_ret; exact ⟨ret_bool (by rw [Bool.eq_iff_iff]; simp [powB]; try omega), rfl⟩)
theorem gIsPower (n : Int) (w : World) : Calls Tryz.prog 78 #[.int .i64 n] w fun e w' => e = .returned (.bool (powB n)) ∧ w = w' := by
  go_enter Tryz.func78, Tryz.ntmps78
  go_wp2
  all_goals (go_ret; exact ⟨ret_bool (by rw [Bool.eq_iff_iff]; simp [powB]; try omega), rfl⟩)
theorem pPower (n : Int) (w : World) : Calls Tryz.prog 56 #[.int .i64 n] w fun e w' => e = .returned (.bool (powB n)) ∧ w = w' := by
  go_enter Tryz.func56, Tryz.ntmps56
  go_wp2
  all_goals (go_ret; exact ⟨ret_bool (by rw [Bool.eq_iff_iff]; simp [powB]; try omega), rfl⟩)
theorem r04Right (a b : Int) (w : World) : Calls Tryz.prog 60 #[.int .i64 a, .int .i64 b] w fun e w' => e = .returned (.bool (rightB a b)) ∧ w = w' := by
  go_enter Tryz.func60, Tryz.ntmps60
  go_wp2
  all_goals (go_ret; exact ⟨ret_bool (by rw [Bool.eq_iff_iff]; simp [rightB]; try omega), rfl⟩)
theorem sChannel (n : Int) (w : World) : Calls Tryz.prog 66 #[.int .i64 n] w fun e w' => e = .returned (.bool (chB n)) ∧ w = w' := by
  go_enter Tryz.func66, Tryz.ntmps66
  go_wp2
  all_goals (go_ret; exact ⟨ret_bool (by rw [Bool.eq_iff_iff]; simp [chB]; try omega), rfl⟩)
theorem r06Channel (n : Int) (w : World) : Calls Tryz.prog 24 #[.int .i64 n] w fun e w' => e = .returned (.bool (chB n)) ∧ w = w' := by
  go_enter Tryz.func24, Tryz.ntmps24
  go_wp2
  all_goals (go_ret; exact ⟨ret_bool (by rw [Bool.eq_iff_iff]; simp [chB]; try omega), rfl⟩)
theorem sInterval (a b : Int) (w : World) : Calls Tryz.prog 69 #[.int .i64 a, .int .i64 b] w fun e w' => e = .returned (.bool (ivB a b)) ∧ w = w' := by
  go_enter Tryz.func69, Tryz.ntmps69
  go_wp2
  all_goals (go_ret; exact ⟨ret_bool (by rw [Bool.eq_iff_iff]; simp [ivB]; try omega), rfl⟩)
theorem r06Interval (a b : Int) (w : World) : Calls Tryz.prog 25 #[.int .i64 a, .int .i64 b] w fun e w' => e = .returned (.bool (ivB a b)) ∧ w = w' := by
  go_enter Tryz.func25, Tryz.ntmps25
  go_wp2
  all_goals (go_ret; exact ⟨ret_bool (by rw [Bool.eq_iff_iff]; simp [ivB]; try omega), rfl⟩)
/-! ### Segments -/
theorem gSquareW (a b : Pt) (w : World) : Calls Tryz.prog 106 #[.agg #[.int .i64 (a).x, .int .i64 (a).y], .agg #[.int .i64 (b).x, .int .i64 (b).y]] w fun e w' => e = .returned (.int .i64 (squareW a b)) ∧ Below w.heap.size w w' := by
  have hu := Tryz.underlying54
  go_enter Tryz.func106, Tryz.ntmps106
  go_wp2
  go_quiet (fail)
  go_wp2
  all_goals (go_ret; exact ⟨ret_int (by simp [squareW]; try omega), by (repeat (first | exact Below.refl _ _ | assumption | apply b_alloc | apply b_drewN | apply b_drew))⟩)
theorem r05SquareW (a b : Pt) (w : World) : Calls Tryz.prog 95 #[.agg #[.int .i64 (a).x, .int .i64 (a).y], .agg #[.int .i64 (b).x, .int .i64 (b).y]] w fun e w' => e = .returned (.int .i64 (squareW a b)) ∧ Below w.heap.size w w' := by
  have hu := Tryz.underlying54
  go_enter Tryz.func95, Tryz.ntmps95
  go_wp2
  all_goals (go_ret; exact ⟨ret_int (by simp [squareW]; try omega), by (repeat (first | exact Below.refl _ _ | assumption | apply b_alloc | apply b_drewN | apply b_drew))⟩)
theorem cIsNaN (n : Int) (w : World) : Calls Tryz.prog 116 #[.int .i64 n] w fun e w' => e = .returned (.bool false) ∧ w = w' := by
  go_enter Tryz.func116, Tryz.ntmps116
  go_wp2
  go_ret
  exact ⟨rfl, rfl⟩
theorem cCompare (a b : Int) (w : World) : Calls Tryz.prog 115 #[.int .i64 a, .int .i64 b] w fun e w' => e = .returned (.int .i64 (cmpI a b)) ∧ w = w' := by
  go_enter Tryz.func115, Tryz.ntmps115
  go_wp2_with (go_at_call 116; refine (cIsNaN _ _).mono ?_; rintro e w' ⟨rfl, rfl⟩)
  all_goals (go_ret; exact ⟨ret_int (by simp [cmpI]; try omega), rfl⟩)
theorem gTurnW (a b c : Pt) (w : World) : Calls Tryz.prog 113 #[.agg #[.int .i64 (a).x, .int .i64 (a).y], .agg #[.int .i64 (b).x, .int .i64 (b).y], .agg #[.int .i64 (c).x, .int .i64 (c).y]] w fun e w' => e = .returned (.int .i64 (turnW a b c)) ∧ Below w.heap.size w w' := by
  have hu := Tryz.underlying54
  go_enter Tryz.func113, Tryz.ntmps113
  go_wp2_with (go_at_call 115; refine (cCompare _ _ _).mono ?_; rintro e w' ⟨rfl, rfl⟩)
  all_goals (go_ret; exact ⟨ret_int (by simp [turnW]; try omega), by (repeat (first | exact Below.refl _ _ | assumption | apply b_alloc | apply b_drewN | apply b_drew))⟩)
theorem r05TurnW (a b c : Pt) (w : World) : Calls Tryz.prog 108 #[.agg #[.int .i64 (a).x, .int .i64 (a).y], .agg #[.int .i64 (b).x, .int .i64 (b).y], .agg #[.int .i64 (c).x, .int .i64 (c).y]] w fun e w' => e = .returned (.int .i64 (turnV a b c)) ∧ Below w.heap.size w w' := by
  have hu := Tryz.underlying54
  go_enter Tryz.func108, Tryz.ntmps108
  go_wp2
  all_goals (go_ret; exact ⟨ret_int (by simp [turnV]; try omega), by (repeat (first | exact Below.refl _ _ | assumption | apply b_alloc | apply b_drewN | apply b_drew))⟩)
theorem gWithin (p a b : Pt) (w : World) : Calls Tryz.prog 114 #[.agg #[.int .i64 (p).x, .int .i64 (p).y], .agg #[.int .i64 (a).x, .int .i64 (a).y], .agg #[.int .i64 (b).x, .int .i64 (b).y]] w fun e w' => e = .returned (.bool (withinB a b p)) ∧ Below w.heap.size w w' := by
  have hu := Tryz.underlying54
  go_enter Tryz.func114, Tryz.ntmps114
  go_wp2
  all_goals (go_ret; exact ⟨ret_bool (by rw [Bool.eq_iff_iff]; simp [withinB]; try omega), by (repeat (first | exact Below.refl _ _ | assumption | apply b_alloc | apply b_drewN | apply b_drew))⟩)
theorem r05Within (a b p : Pt) (w : World) : Calls Tryz.prog 109 #[.agg #[.int .i64 (a).x, .int .i64 (a).y], .agg #[.int .i64 (b).x, .int .i64 (b).y], .agg #[.int .i64 (p).x, .int .i64 (p).y]] w fun e w' => e = .returned (.bool (withinB a b p)) ∧ Below w.heap.size w w' := by
  have hu := Tryz.underlying54
  go_enter Tryz.func109, Tryz.ntmps109
  go_wp2
  all_goals (go_ret; exact ⟨ret_bool (by rw [Bool.eq_iff_iff]; simp [withinB]; try omega), by (repeat (first | exact Below.refl _ _ | assumption | apply b_alloc | apply b_drewN | apply b_drew))⟩)
end Go.Proofs.YtpbhoeaadnemhaaGreat
namespace Go.Proofs.YtpbhoeaadnemhaaGreat
open Go.RowKit
attribute [local go_sem high] max2_mx min2_mn max_two min_two
set_option linter.unusedVariables false
set_option linter.unusedSimpArgs false
set_option maxHeartbeats 4000000
set_option maxRecDepth 100000
theorem gTurnX (ax ay bx b_y cx cy : Int) (w : World) : Calls Tryz.prog 113 #[.agg #[.int .i64 ax, .int .i64 ay], .agg #[.int .i64 bx, .int .i64 b_y], .agg #[.int .i64 cx, .int .i64 cy]] w fun e w' => e = .returned (.int .i64 (turnW ⟨ax, ay⟩ ⟨bx, b_y⟩ ⟨cx, cy⟩)) ∧ Below w.heap.size w w' := gTurnW ⟨ax, ay⟩ ⟨bx, b_y⟩ ⟨cx, cy⟩ w
theorem gWithinX (px py ax ay bx b_y : Int) (w : World) : Calls Tryz.prog 114 #[.agg #[.int .i64 px, .int .i64 py], .agg #[.int .i64 ax, .int .i64 ay], .agg #[.int .i64 bx, .int .i64 b_y]] w fun e w' => e = .returned (.bool (withinB ⟨ax, ay⟩ ⟨bx, b_y⟩ ⟨px, py⟩)) ∧ Below w.heap.size w w' := gWithin ⟨px, py⟩ ⟨ax, ay⟩ ⟨bx, b_y⟩ w
theorem gOnX (px py ax ay bx b_y : Int) (w : World) : Calls Tryz.prog 112 #[.agg #[.int .i64 px, .int .i64 py], .agg #[.int .i64 ax, .int .i64 ay], .agg #[.int .i64 bx, .int .i64 b_y]] w fun e w' => e = .returned (.bool (onW ⟨px, py⟩ ⟨ax, ay⟩ ⟨bx, b_y⟩)) ∧ Below w.heap.size w w' := by
  have hu := Tryz.underlying54
  by_cases e1 : px = ax
  · subst e1
    by_cases e2 : py = ay
    · subst e2
      go_enter Tryz.func112, Tryz.ntmps112
      go_wp2
      go_ret
      exact ⟨ret_bool (by simp [onW]), by (repeat (first | exact Below.refl _ _ | assumption | apply b_alloc | apply b_drewN | apply b_drew))⟩
    · by_cases e3 : px = bx
      · subst e3
        by_cases e4 : py = b_y
        · subst e4
          go_enter Tryz.func112, Tryz.ntmps112
          go_wp2
          go_ret
          exact ⟨ret_bool (by simp [onW]), by (repeat (first | exact Below.refl _ _ | assumption | apply b_alloc | apply b_drewN | apply b_drew))⟩
        · go_enter Tryz.func112, Tryz.ntmps112
          go_wp2_with fail
          refine (gTurnX _ _ _ _ _ _ _).mono ?_
          rintro e w1 ⟨rfl, hb⟩
          obtain ⟨hc, hf⟩ := bcell hb
          have hbw : Below w.heap.size w w1 := b_then (by (repeat (first | exact Below.refl _ _ | assumption | apply b_alloc | apply b_drewN | apply b_drew))) hb
          go_wp2_with fail
          · refine (gWithinX _ _ _ _ _ _ _).mono ?_
            rintro e w2 ⟨rfl, hb2⟩
            go_wp2
            go_ret
            exact ⟨ret_bool (by simp [onW, *]), b_then hbw hb2⟩
          · go_ret
            exact ⟨ret_bool (by simp [onW, *]), hbw⟩
      · go_enter Tryz.func112, Tryz.ntmps112
        go_wp2_with fail
        refine (gTurnX _ _ _ _ _ _ _).mono ?_
        rintro e w1 ⟨rfl, hb⟩
        obtain ⟨hc, hf⟩ := bcell hb
        have hbw : Below w.heap.size w w1 := b_then (by (repeat (first | exact Below.refl _ _ | assumption | apply b_alloc | apply b_drewN | apply b_drew))) hb
        go_wp2_with fail
        · refine (gWithinX _ _ _ _ _ _ _).mono ?_
          rintro e w2 ⟨rfl, hb2⟩
          go_wp2
          go_ret
          exact ⟨ret_bool (by simp [onW, *]), b_then hbw hb2⟩
        · go_ret
          exact ⟨ret_bool (by simp [onW, *]), hbw⟩
  · by_cases e3 : px = bx
    · subst e3
      by_cases e4 : py = b_y
      · subst e4
        go_enter Tryz.func112, Tryz.ntmps112
        go_wp2
        go_ret
        exact ⟨ret_bool (by simp [onW]), by (repeat (first | exact Below.refl _ _ | assumption | apply b_alloc | apply b_drewN | apply b_drew))⟩
      · go_enter Tryz.func112, Tryz.ntmps112
        go_wp2_with fail
        refine (gTurnX _ _ _ _ _ _ _).mono ?_
        rintro e w1 ⟨rfl, hb⟩
        obtain ⟨hc, hf⟩ := bcell hb
        have hbw : Below w.heap.size w w1 := b_then (by (repeat (first | exact Below.refl _ _ | assumption | apply b_alloc | apply b_drewN | apply b_drew))) hb
        go_wp2_with fail
        · refine (gWithinX _ _ _ _ _ _ _).mono ?_
          rintro e w2 ⟨rfl, hb2⟩
          go_wp2
          go_ret
          exact ⟨ret_bool (by simp [onW, *]), b_then hbw hb2⟩
        · go_ret
          exact ⟨ret_bool (by simp [onW, *]), hbw⟩
    · go_enter Tryz.func112, Tryz.ntmps112
      go_wp2_with fail
      refine (gTurnX _ _ _ _ _ _ _).mono ?_
      rintro e w1 ⟨rfl, hb⟩
      obtain ⟨hc, hf⟩ := bcell hb
      have hbw : Below w.heap.size w w1 := b_then (by (repeat (first | exact Below.refl _ _ | assumption | apply b_alloc | apply b_drewN | apply b_drew))) hb
      go_wp2_with fail
      · refine (gWithinX _ _ _ _ _ _ _).mono ?_
        rintro e w2 ⟨rfl, hb2⟩
        go_wp2
        go_ret
        exact ⟨ret_bool (by simp [onW, *]), b_then hbw hb2⟩
      · go_ret
        exact ⟨ret_bool (by simp [onW, *]), hbw⟩
theorem gOnW (p a b : Pt) (w : World) : Calls Tryz.prog 112 #[.agg #[.int .i64 (p).x, .int .i64 (p).y], .agg #[.int .i64 (a).x, .int .i64 (a).y], .agg #[.int .i64 (b).x, .int .i64 (b).y]] w fun e w' => e = .returned (.bool (onW p a b)) ∧ Below w.heap.size w w' := gOnX p.x p.y a.x a.y b.x b.y w
end Go.Proofs.YtpbhoeaadnemhaaGreat
namespace Go.Proofs.YtpbhoeaadnemhaaGreat
open Go.RowKit
attribute [local go_sem high] max2_mx min2_mn max_two min_two
set_option linter.unusedVariables false
set_option linter.unusedSimpArgs false
set_option maxHeartbeats 4000000
set_option maxRecDepth 100000
/-- The three boxes of Crosses, in any later world. -/
def Boxes3 (n : Nat) (ax ay bx b_y ux uy vx vy f : Int) (W : World) : Prop :=
  (W.cell? ⟨n, 0, none⟩ = some (.int .i64 ax) ∧ W.cell? ⟨n, 1, none⟩ = some (.int .i64 ay)) ∧ (W.cell? ⟨n + 1, 0, none⟩ = some (.int .i64 bx) ∧ W.cell? ⟨n + 1, 1, none⟩ = some (.int .i64 b_y)) ∧
  W.cell? ⟨n + 1 + 1, 0, none⟩ = some (.int .i64 ux) ∧ W.cell? ⟨n + 1 + 1, 1, none⟩ = some (.int .i64 uy) ∧ W.cell? ⟨n + 1 + 1, 2, none⟩ = some (.int .i64 vx) ∧ W.cell? ⟨n + 1 + 1, 3, none⟩ = some (.int .i64 vy) ∧ W.cell? ⟨n + 1 + 1, 4, none⟩ = some (.int .i64 f)
theorem Boxes3.mono {n : Nat} {ax ay bx b_y ux uy vx vy f : Int} {W W1 : World} (h : Boxes3 n ax ay bx b_y ux uy vx vy f W) (hb : Below W.heap.size W W1) : Boxes3 n ax ay bx b_y ux uy vx vy f W1 := by
  obtain ⟨⟨h0, h1⟩, ⟨h2, h3⟩, h4, h5, h6, h7, h8⟩ := h
  exact ⟨⟨cell_mono hb h0, cell_mono hb h1⟩, ⟨cell_mono hb h2, cell_mono hb h3⟩, cell_mono hb h4, cell_mono hb h5, cell_mono hb h6, cell_mono hb h7, cell_mono hb h8⟩
theorem Boxes3.new (w : World) (ax ay bx b_y ux uy vx vy f : Int) : Boxes3 w.heap.size ax ay bx b_y ux uy vx vy f (((w.alloc (.cells #[.int .i64 ax, .int .i64 ay] 54)).alloc (.cells #[.int .i64 bx, .int .i64 b_y] 54)).alloc (.cells #[.int .i64 ux, .int .i64 uy, .int .i64 vx, .int .i64 vy, .int .i64 f] 91)) := by
  have h0 := fun j u hu => box_at (wr := ((w.alloc (.cells #[.int .i64 ax, .int .i64 ay] 54)).alloc (.cells #[.int .i64 bx, .int .i64 b_y] 54)).alloc (.cells #[.int .i64 ux, .int .i64 uy, .int .i64 vx, .int .i64 vy, .int .i64 f] 91)) (b_alloc (b_alloc (Below.refl _ _) _) _) (W1 := w.alloc (.cells #[.int .i64 ax, .int .i64 ay] 54)) rfl j (u := u) hu
  have h1 := fun j u hu => box_at (wr := ((w.alloc (.cells #[.int .i64 ax, .int .i64 ay] 54)).alloc (.cells #[.int .i64 bx, .int .i64 b_y] 54)).alloc (.cells #[.int .i64 ux, .int .i64 uy, .int .i64 vx, .int .i64 vy, .int .i64 f] 91)) (b_alloc (Below.refl _ _) _) (W1 := (w.alloc (.cells #[.int .i64 ax, .int .i64 ay] 54)).alloc (.cells #[.int .i64 bx, .int .i64 b_y] 54)) rfl j (u := u) hu
  have h2 := fun j u hu => box_at (Below.refl _ _) (W1 := ((w.alloc (.cells #[.int .i64 ax, .int .i64 ay] 54)).alloc (.cells #[.int .i64 bx, .int .i64 b_y] 54)).alloc (.cells #[.int .i64 ux, .int .i64 uy, .int .i64 vx, .int .i64 vy, .int .i64 f] 91)) rfl j (u := u) hu
  simp only [World.size_alloc] at h0 h1 h2
  exact ⟨⟨h0 0 _ rfl, h0 1 _ rfl⟩, ⟨h1 0 _ rfl, h1 1 _ rfl⟩, h2 0 _ rfl, h2 1 _ rfl, h2 2 _ rfl, h2 3 _ rfl, h2 4 _ rfl⟩
theorem gCrossX (ax ay bx b_y ux uy vx vy f : Int) (w : World) : Calls Tryz.prog 111 #[.agg #[.int .i64 ax, .int .i64 ay], .agg #[.int .i64 bx, .int .i64 b_y], .agg #[.int .i64 ux, .int .i64 uy, .int .i64 vx, .int .i64 vy, .int .i64 f]] w fun e w' => e = .returned (.bool (crossW ⟨ax, ay⟩ ⟨bx, b_y⟩ ⟨⟨ux, uy⟩, ⟨vx, vy⟩, f⟩)) ∧ Below w.heap.size w w' := by
  have hu := Tryz.underlying54
  have hu2 := Tryz.underlying91
  have B0 := Boxes3.new w ax ay bx b_y ux uy vx vy f
  go_enter Tryz.func111, Tryz.ntmps111
  go_wp2_with fail
  generalize hW : ((w.alloc (.cells #[.int .i64 ax, .int .i64 ay] 54)).alloc (.cells #[.int .i64 bx, .int .i64 b_y] 54)).alloc (.cells #[.int .i64 ux, .int .i64 uy, .int .i64 vx, .int .i64 vy, .int .i64 f] 91) = W at B0 ⊢
  have h0 : Below w.heap.size w W := by rw [← hW]; (repeat (first | exact Below.refl _ _ | assumption | apply b_alloc | apply b_drewN | apply b_drew))
  clear hW
  (refine (gOnX _ _ _ _ _ _ _).mono ?_)
  rintro e w1 ⟨rfl, hb1⟩
  have h1 := b_then h0 hb1
  have B1 := B0.mono hb1
  obtain ⟨⟨p0, p1⟩, ⟨p2, p3⟩, p4, p5, p6, p7, p8⟩ := id B1
  rcases Bool.eq_false_or_eq_true (onW ⟨ux, uy⟩ ⟨ax, ay⟩ ⟨bx, b_y⟩) with q1 | q1
  · rw [q1]
    go_wp2
    go_ret
    exact ⟨ret_bool (by simp [crossW, *]), by assumption⟩
  · rw [q1]
    go_wp2_with fail
    (refine (gOnX _ _ _ _ _ _ _).mono ?_)
    rintro e w2 ⟨rfl, hb2⟩
    have h2 := b_then h1 hb2
    have B2 := B1.mono hb2
    obtain ⟨⟨p0, p1⟩, ⟨p2, p3⟩, p4, p5, p6, p7, p8⟩ := id B2
    rcases Bool.eq_false_or_eq_true (onW ⟨vx, vy⟩ ⟨ax, ay⟩ ⟨bx, b_y⟩) with q2 | q2
    · rw [q2]
      go_wp2
      go_ret
      exact ⟨ret_bool (by simp [crossW, *]), by assumption⟩
    · rw [q2]
      go_wp2_with fail
      (refine (gOnX _ _ _ _ _ _ _).mono ?_)
      rintro e w3 ⟨rfl, hb3⟩
      have h3 := b_then h2 hb3
      have B3 := B2.mono hb3
      obtain ⟨⟨p0, p1⟩, ⟨p2, p3⟩, p4, p5, p6, p7, p8⟩ := id B3
      rcases Bool.eq_false_or_eq_true (onW ⟨ax, ay⟩ ⟨ux, uy⟩ ⟨vx, vy⟩) with q3 | q3
      · rw [q3]
        go_wp2
        go_ret
        exact ⟨ret_bool (by simp [crossW, *]), by assumption⟩
      · rw [q3]
        go_wp2_with fail
        (refine (gOnX _ _ _ _ _ _ _).mono ?_)
        rintro e w4 ⟨rfl, hb4⟩
        have h4 := b_then h3 hb4
        have B4 := B3.mono hb4
        obtain ⟨⟨p0, p1⟩, ⟨p2, p3⟩, p4, p5, p6, p7, p8⟩ := id B4
        rcases Bool.eq_false_or_eq_true (onW ⟨bx, b_y⟩ ⟨ux, uy⟩ ⟨vx, vy⟩) with q4 | q4
        · rw [q4]
          go_wp2
          go_ret
          exact ⟨ret_bool (by simp [crossW, *]), by assumption⟩
        · rw [q4]
          clear p0 p1 p2 p3 p4 p5 p6 p7 p8 hb1 hb2 hb3 hb4 h1 h2 h3 h0 B0 B1 B2 B3
          obtain ⟨⟨p0, p1⟩, ⟨p2, p3⟩, p4, p5, p6, p7, p8⟩ := B4
          have Q1 := Lib.hid q1
          have Q2 := Lib.hid q2
          have Q3 := Lib.hid q3
          have Q4 := Lib.hid q4
          clear q1 q2 q3 q4
          have ew : ∀ x, IntKind.i64.wrap x = wrap64 x := fun x => IntWalk.i64_left x
          have L0 := Later.cell p0
          have L1 := Later.cell p1
          have L2 := Later.cell p2
          have L3 := Later.cell p3
          have L4 := Later.cell p4
          have L5 := Later.cell p5
          have L6 := Later.cell p6
          have L7 := Later.cell p7
          rcases Bool.eq_false_or_eq_true (decide (wrap64 (turnW ⟨ax, ay⟩ ⟨bx, b_y⟩ ⟨ux, uy⟩ * turnW ⟨ax, ay⟩ ⟨bx, b_y⟩ ⟨vx, vy⟩) < 0)) with q5 | q5
          all_goals
            go_wp2_with fail
            refine wp_region_later (by kernel_rfl) (by kernel_rfl) ?_
            repeat (go_big_quiet_step ((go_at_call 113; exact later_of (gTurnX _ _ _ _ _ _ _))))
            refine wpQuiet_nil ?_
            rintro _ ⟨x, rfl⟩
            have hx := b_then h4 x.below
            go_wp2
            go_ret
            exact ⟨ret_bool (by simp only [crossW, Q1.out, Q2.out, Q3.out, Q4.out, q5]; simp), hx⟩
theorem gCrossW (a b : Pt) (q : Wl) (w : World) : Calls Tryz.prog 111 #[.agg #[.int .i64 (a).x, .int .i64 (a).y], .agg #[.int .i64 (b).x, .int .i64 (b).y], .agg #[.int .i64 (q).a.x, .int .i64 (q).a.y, .int .i64 (q).b.x, .int .i64 (q).b.y, .int .i64 (q).f]] w fun e w' => e = .returned (.bool (crossW a b q)) ∧ Below w.heap.size w w' := gCrossX a.x a.y b.x b.y q.a.x q.a.y q.b.x q.b.y q.f w
/-! ### The reference's -/
theorem r05TurnX (ax ay bx b_y cx cy : Int) (w : World) : Calls Tryz.prog 108 #[.agg #[.int .i64 ax, .int .i64 ay], .agg #[.int .i64 bx, .int .i64 b_y], .agg #[.int .i64 cx, .int .i64 cy]] w fun e w' => e = .returned (.int .i64 (turnV ⟨ax, ay⟩ ⟨bx, b_y⟩ ⟨cx, cy⟩)) ∧ Below w.heap.size w w' := r05TurnW ⟨ax, ay⟩ ⟨bx, b_y⟩ ⟨cx, cy⟩ w
theorem r05WithinX (ax ay bx b_y px py : Int) (w : World) : Calls Tryz.prog 109 #[.agg #[.int .i64 ax, .int .i64 ay], .agg #[.int .i64 bx, .int .i64 b_y], .agg #[.int .i64 px, .int .i64 py]] w fun e w' => e = .returned (.bool (withinB ⟨ax, ay⟩ ⟨bx, b_y⟩ ⟨px, py⟩)) ∧ Below w.heap.size w w' := r05Within ⟨ax, ay⟩ ⟨bx, b_y⟩ ⟨px, py⟩ w
theorem r05CrossX (ax ay bx b_y ux uy vx vy f : Int) (w : World) : Calls Tryz.prog 96 #[.agg #[.int .i64 ax, .int .i64 ay], .agg #[.int .i64 bx, .int .i64 b_y], .agg #[.int .i64 ux, .int .i64 uy, .int .i64 vx, .int .i64 vy, .int .i64 f]] w fun e w' => e = .returned (.bool (crossV ⟨ax, ay⟩ ⟨bx, b_y⟩ ⟨⟨ux, uy⟩, ⟨vx, vy⟩, f⟩)) ∧ Below w.heap.size w w' := by
  have hu := Tryz.underlying54
  have hu2 := Tryz.underlying91
  have ew : ∀ x, IntKind.i64.wrap x = wrap64 x := fun x => IntWalk.i64_left x
  have B0 := Boxes3.new w ax ay bx b_y ux uy vx vy f
  go_enter Tryz.func96, Tryz.ntmps96
  go_wp2_with fail
  generalize hW : ((w.alloc (.cells #[.int .i64 ax, .int .i64 ay] 54)).alloc (.cells #[.int .i64 bx, .int .i64 b_y] 54)).alloc (.cells #[.int .i64 ux, .int .i64 uy, .int .i64 vx, .int .i64 vy, .int .i64 f] 91) = W at B0 ⊢
  have h0 : Below w.heap.size w W := by rw [← hW]; (repeat (first | exact Below.refl _ _ | assumption | apply b_alloc | apply b_drewN | apply b_drew))
  clear hW
  obtain ⟨⟨p0, p1⟩, ⟨p2, p3⟩, p4, p5, p6, p7, p8⟩ := id B0
  have L0 := Later.cell p0
  have L1 := Later.cell p1
  have L2 := Later.cell p2
  have L3 := Later.cell p3
  have L4 := Later.cell p4
  have L5 := Later.cell p5
  have L6 := Later.cell p6
  have L7 := Later.cell p7
  go_wp2_with fail
  refine wp_region_later (by kernel_rfl) (by kernel_rfl) ?_
  repeat (go_big_quiet_step ((go_at_call 108; exact later_of (r05TurnX _ _ _ _ _ _ _))))
  refine wpQuiet_nil ?_
  rintro _ ⟨x, rfl⟩
  have B1 := B0.mono x.below
  have h1 := b_then h0 x.below
  clear p0 p1 p2 p3 p4 p5 p6 p7 p8 L0 L1 L2 L3 L4 L5 L6 L7 B0 h0
  obtain ⟨W1, hW1⟩ : ∃ W1, W1 = x.W := ⟨_, rfl⟩
  rw [← hW1] at B1 h1 ⊢
  clear hW1 x
  obtain ⟨⟨p0, p1⟩, ⟨p2, p3⟩, p4, p5, p6, p7, p8⟩ := id B1
  have L0 := Later.cell p0
  have L1 := Later.cell p1
  have L2 := Later.cell p2
  have L3 := Later.cell p3
  have L4 := Later.cell p4
  have L5 := Later.cell p5
  have L6 := Later.cell p6
  have L7 := Later.cell p7
  go_wp2_with fail
  refine wp_region_later (by kernel_rfl) (by kernel_rfl) ?_
  repeat (go_big_quiet_step ((go_at_call 108; exact later_of (r05TurnX _ _ _ _ _ _ _))))
  refine wpQuiet_nil ?_
  rintro _ ⟨x, rfl⟩
  have B2 := B1.mono x.below
  have h2 := b_then h1 x.below
  clear p0 p1 p2 p3 p4 p5 p6 p7 p8 L0 L1 L2 L3 L4 L5 L6 L7 B1 h1
  obtain ⟨W2, hW2⟩ : ∃ W2, W2 = x.W := ⟨_, rfl⟩
  rw [← hW2] at B2 h2 ⊢
  clear hW2 x
  obtain ⟨⟨p0, p1⟩, ⟨p2, p3⟩, p4, p5, p6, p7, p8⟩ := id B2
  have hv : crossV ⟨ax, ay⟩ ⟨bx, b_y⟩ ⟨⟨ux, uy⟩, ⟨vx, vy⟩, f⟩ = ((decide (wrap64 (turnV ⟨ax, ay⟩ ⟨bx, b_y⟩ ⟨ux, uy⟩ * turnV ⟨ax, ay⟩ ⟨bx, b_y⟩ ⟨vx, vy⟩) < 0) && decide (wrap64 (turnV ⟨ux, uy⟩ ⟨vx, vy⟩ ⟨ax, ay⟩ * turnV ⟨ux, uy⟩ ⟨vx, vy⟩ ⟨bx, b_y⟩) < 0)) || (decide (turnV ⟨ax, ay⟩ ⟨bx, b_y⟩ ⟨ux, uy⟩ = 0) && withinB ⟨ax, ay⟩ ⟨bx, b_y⟩ ⟨ux, uy⟩) || (decide (turnV ⟨ax, ay⟩ ⟨bx, b_y⟩ ⟨vx, vy⟩ = 0) && withinB ⟨ax, ay⟩ ⟨bx, b_y⟩ ⟨vx, vy⟩) || (decide (turnV ⟨ux, uy⟩ ⟨vx, vy⟩ ⟨ax, ay⟩ = 0) && withinB ⟨ux, uy⟩ ⟨vx, vy⟩ ⟨ax, ay⟩) || (decide (turnV ⟨ux, uy⟩ ⟨vx, vy⟩ ⟨bx, b_y⟩ = 0) && withinB ⟨ux, uy⟩ ⟨vx, vy⟩ ⟨bx, b_y⟩)) := rfl
  have Hv := Lib.hid hv
  clear hv
  generalize turnV ⟨ax, ay⟩ ⟨bx, b_y⟩ ⟨ux, uy⟩ = t1 at *
  generalize turnV ⟨ax, ay⟩ ⟨bx, b_y⟩ ⟨vx, vy⟩ = t2 at *
  generalize turnV ⟨ux, uy⟩ ⟨vx, vy⟩ ⟨ax, ay⟩ = t3 at *
  generalize turnV ⟨ux, uy⟩ ⟨vx, vy⟩ ⟨bx, b_y⟩ = t4 at *
  go_wp2_with (go_at_call 109; (with_reducible refine (r05WithinX _ _ _ _ _ _ _).mono ?_); rintro e w7 ⟨rfl, hb⟩; have B2 := B2.mono hb; have h2 := b_then h2 hb; obtain ⟨⟨p0, p1⟩, ⟨p2, p3⟩, p4, p5, p6, p7, p8⟩ := id B2)
  all_goals
    go_ret
    exact ⟨ret_bool (by rw [Hv.out]; simp [*, wrap64_zero]; try omega), by assumption⟩
end Go.Proofs.YtpbhoeaadnemhaaGreat
