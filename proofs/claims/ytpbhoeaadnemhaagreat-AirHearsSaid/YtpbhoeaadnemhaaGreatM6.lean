/- Walks: an external transmitter is valid. Walks: the reference's check of an external transmitter; fadings. -/
import Derived.Test.YtpbhoeaadnemhaaGreatM1
import Derived.Test.YtpbhoeaadnemhaaGreatM2
namespace Go.Proofs.YtpbhoeaadnemhaaGreat
open Go.RowKit
attribute [local go_sem high] max2_mx min2_mn max_two min_two
set_option linter.unusedVariables false
set_option linter.unusedSimpArgs false
set_option maxHeartbeats 4000000
set_option maxRecDepth 100000
theorem sSource (s : Src) (v : Value) (w : World) (h : SlV 1 KI w v s.ch) : Calls Tryz.prog 83 #[.agg #[.int .i64 (s).pt.x, .int .i64 (s).pt.y, .int .i64 (s).pow, v, .int .i64 (s).per, .int .i64 (s).frm, .int .i64 (s).to]] w fun e w' => e = .returned (.bool (srcB s)) ∧ Below w.heap.size w w' := by
  have hu := Tryz.underlying54
  have hu2 := Tryz.underlying83
  obtain ⟨⟨px, py⟩, pow, ch, per, frm, to⟩ := s
  obtain ⟨A, c, rfl, hc, hm, hr⟩ := h
  dsimp only at *
  unfold big at hm
  obtain ⟨W1, hW1⟩ : ∃ W1, W1 = w.alloc (.cells #[.int .i64 px, .int .i64 py, .int .i64 pow, .slice A ch.length c, .int .i64 per, .int .i64 frm, .int .i64 to] 83) := ⟨_, rfl⟩
  have hb1 : Below w.heap.size w W1 := by rw [hW1]; (repeat (first | exact Below.refl _ _ | assumption | apply b_alloc | apply b_drewN | apply b_drew))
  have HW := Lib.hid hW1
  clear hW1
  by_cases hh : (ptB ⟨px, py⟩ && powB pow) = true
  · have HH := Lib.hid hh
    simp only [ptB, powB, Bool.and_eq_true, decide_eq_true_eq] at hh
    have g1 : decide (min px py < 0) = false := by simp; omega
    have g2 : decide (10000 < max px py) = false := by simp; omega
    have g3 : decide (pow < 0) = false := by simp; omega
    have g4 : decide (68719476736 < pow) = false := by simp; omega
    clear hh
    go_enter Tryz.func83, Tryz.ntmps83
    go_wp2_with fail
    rw [← HW.out]
    go_loopw [36] (fun i wr => ∃ k : Nat, k ≤ ch.length ∧ i = .int .i64 k ∧ (∀ i, i < k → okI ch i = true) ∧ Below W1.heap.size W1 wr) (fun i _ => ch.length - (intOf i).toNat)
    case atStart => exact ⟨0, Nat.zero_le _, rfl, fun _ h => absurd h (Nat.not_lt_zero _), Below.refl _ _⟩
    case round =>
      obtain ⟨k, hk, rfl, ha, hbw⟩ := hrel
      have hs2 := box_at hbw HW.out 3 rfl
      have hs3 := box_at hbw HW.out 4 rfl
      have hs4 := box_at hbw HW.out 5 rfl
      have hs5 := box_at hbw HW.out 6 rfl
      by_cases hlt : k < ch.length
      · obtain ⟨x, hx⟩ : ∃ x, ch[k]? = some x := ⟨_, List.getElem?_eq_getElem hlt⟩
        have hgx : ch[k]?.getD 0 = x := by rw [hx]; rfl
        obtain ⟨b, off, rfl, hx0⟩ := hr.int (b_then hb1 hbw) hx
        have Hx := Lib.hid hx
        have Hgx := Lib.hid hgx
        clear hx hgx
        go_wp2_with fail
        refine (sChannel x _).mono ?_
        rintro e w' ⟨rfl, rfl⟩
        rcases Bool.eq_false_or_eq_true (chB x) with q | q
        · rw [q]
          rcases k with _ | j
          · go_wp2
            go_roundw
            case rel => exact ⟨1, by omega, by go_num, fun i hi => (by obtain rfl : i = 0 := (by omega); simp [okI, Hgx.out, q]), hbw⟩
            case measure => simp [intOf]; omega
          · obtain ⟨y, hy⟩ : ∃ y, ch[j]? = some y := ⟨_, List.getElem?_eq_getElem (by omega)⟩
            have hgy : ch[j]?.getD 0 = y := by rw [hy]; rfl
            obtain ⟨b', off', e', hy0⟩ := hr.int (b_then hb1 hbw) hy
            cases e'
            have Hgy := Lib.hid hgy
            clear hy hgy
            have hj : (0 : Int) < (j : Int) + 1 := by omega
            have hj0 : decide ((0 : Int) ≤ (j : Int)) = true := by simp
            have hj1 : decide ((j : Int) < (ch.length : Int)) = true := by simp; omega
            have hsl := box_at hbw HW.out 3 rfl
            by_cases hxy : x ≤ y
            · go_wp2
              go_ret
              exact ⟨ret_bool (by
                have : okI ch (j + 1) = false := by simp [okI, Hgx.out, Hgy.out, q]; omega
                simp [srcB, inc_not hlt this]), b_then hb1 hbw⟩
            · go_wp2
              go_roundw
              case rel =>
                have hok : okI ch (j + 1) = true := (by have h1 : y < x := (by omega); simp [okI, Hgx.out, Hgy.out, q, h1])
                exact ⟨j + 1 + 1, by omega, by go_num, fun i hi => (by
                  rcases Nat.lt_succ_iff_lt_or_eq.1 hi with h1 | rfl
                  · exact ha i h1
                  · exact hok), hbw⟩
              case measure => simp [intOf]; omega
        · rw [q]
          go_wp2
          go_ret
          exact ⟨ret_bool (by
            have : okI ch k = false := by simp [okI, Hgx.out, q]
            simp [srcB, inc_not hlt this]), b_then hb1 hbw⟩
      · have hinc := inc_all (ch := ch) (fun i hi => ha i (by omega))
        have Hi := Lib.hid hinc
        clear hinc ha
        have hfin : srcB ⟨⟨px, py⟩, pow, ch, per, frm, to⟩ = perB ⟨⟨px, py⟩, pow, ch, per, frm, to⟩ := by
          have := HH.out
          simp only [Bool.and_eq_true] at this
          simp [srcB, this, Hi.out]
        have Hfin := Lib.hid hfin
        clear hfin
        go_wp2
        all_goals (go_ret; exact ⟨ret_bool (by rw [Hfin.out, Bool.eq_iff_iff]; simp [perB]; try omega), b_then hb1 hbw⟩)
  · have hfin : srcB ⟨⟨px, py⟩, pow, ch, per, frm, to⟩ = false := by
      rw [Bool.eq_false_iff]; intro h; apply hh; simp only [srcB, Bool.and_eq_true] at h ⊢; exact h.1.1
    have hn : px < 0 ∨ py < 0 ∨ 10000 < px ∨ 10000 < py ∨ pow < 0 ∨ 68719476736 < pow := by
      simp [ptB, powB] at hh; omega
    have Hfin := Lib.hid hfin
    have HN := Lib.hid hn
    clear hfin hh hn
    go_enter Tryz.func83, Tryz.ntmps83
    go_wp2_with fail
    all_goals first
      | (go_ret; exact ⟨ret_bool (by rw [Hfin.out]), by (repeat (first | exact Below.refl _ _ | assumption | apply b_alloc | apply b_drewN | apply b_drew))⟩)
      | (exfalso; have := HN.out; omega)
end Go.Proofs.YtpbhoeaadnemhaaGreat
namespace Go.Proofs.YtpbhoeaadnemhaaGreat
open Go.RowKit
attribute [local go_sem high] max2_mx min2_mn max_two min_two
set_option linter.unusedVariables false
set_option linter.unusedSimpArgs false
set_option maxHeartbeats 4000000
set_option maxRecDepth 100000
theorem r06Source (s : Src) (v : Value) (w : World) (h : SlV 1 KI w v s.ch) : Calls Tryz.prog 63 #[.agg #[.int .i64 (s).pt.x, .int .i64 (s).pt.y, .int .i64 (s).pow, v, .int .i64 (s).per, .int .i64 (s).frm, .int .i64 (s).to]] w fun e w' => e = .returned (.bool (srcB s)) ∧ Below w.heap.size w w' := by
  have hu := Tryz.underlying54
  have hu2 := Tryz.underlying83
  obtain ⟨⟨px, py⟩, pow, ch, per, frm, to⟩ := s
  obtain ⟨A, c, rfl, hc, hm, hr⟩ := h
  dsimp only at *
  unfold big at hm
  obtain ⟨W1, hW1⟩ : ∃ W1, W1 = w.alloc (.cells #[.int .i64 px, .int .i64 py, .int .i64 pow, .slice A ch.length c, .int .i64 per, .int .i64 frm, .int .i64 to] 83) := ⟨_, rfl⟩
  have hb1 : Below w.heap.size w W1 := by rw [hW1]; (repeat (first | exact Below.refl _ _ | assumption | apply b_alloc | apply b_drewN | apply b_drew))
  have HW := Lib.hid hW1
  clear hW1
  go_enter Tryz.func63, Tryz.ntmps63
  go_wp2_with fail
  rw [← HW.out]
  go_loopw [3] (fun i wr => ∃ k : Nat, k ≤ ch.length ∧ i = .int .i64 k ∧ (∀ i, i < k → okI ch i = true) ∧ Below W1.heap.size W1 wr) (fun i _ => ch.length - (intOf i).toNat)
  case atStart => exact ⟨0, Nat.zero_le _, rfl, fun _ h => absurd h (Nat.not_lt_zero _), Below.refl _ _⟩
  case round =>
    obtain ⟨k, hk, rfl, ha, hbw⟩ := hrel
    have hs0 := box_at hbw HW.out 0 rfl
    have hs1 := box_at hbw HW.out 1 rfl
    have hs2 := box_at hbw HW.out 3 rfl
    by_cases hlt : k < ch.length
    · obtain ⟨x, hx⟩ : ∃ x, ch[k]? = some x := ⟨_, List.getElem?_eq_getElem hlt⟩
      have hgx : ch[k]?.getD 0 = x := by rw [hx]; rfl
      obtain ⟨b, off, rfl, hx0⟩ := hr.int (b_then hb1 hbw) hx
      have hs2 := box_at hbw HW.out 3 rfl
      have Hx := Lib.hid hx
      have Hgx := Lib.hid hgx
      clear hx hgx
      have L2 := Later.cell hs2
      have Lx := Later.cell hx0
      have hk0 : decide ((0 : Int) ≤ (k : Int)) = true := by simp
      have hk1 : decide ((k : Int) < (ch.length : Int)) = true := by simp; omega
      have hk2 : (0 : Int) ≤ (k : Int) := by omega
      have hk3 : (k : Int) < (ch.length : Int) := by omega
      rcases Bool.eq_false_or_eq_true (chB x) with q | q
      · rcases k with _ | j
        · have Lx : ∀ z : Later wr, z.W.cell? ⟨b, off, none⟩ = some (.int .i64 x) := Later.cell (by simpa using hx0)
          go_wp2_with fail
          refine wp_region_later (by kernel_rfl) (by kernel_rfl) ?_
          repeat (go_big_quiet_step ((go_at_call 24; exact later_same (r06Channel _ _))))
          refine wpQuiet_nil ?_
          rintro _ ⟨z, rfl⟩
          have hbz := b_then hbw z.below
          go_wp2
          go_roundw
          case rel => exact ⟨1, by omega, by go_num, fun i hi => (by obtain rfl : i = 0 := (by omega); simp [okI, Hgx.out, q]), hbz⟩
          case measure => simp [intOf]; omega
        · obtain ⟨y, hy⟩ : ∃ y, ch[j]? = some y := ⟨_, List.getElem?_eq_getElem (by omega)⟩
          have hgy : ch[j]?.getD 0 = y := by rw [hy]; rfl
          obtain ⟨b', off', e', hy0⟩ := hr.int (b_then hb1 hbw) hy
          cases e'
          have Hgy := Lib.hid hgy
          clear hy hgy
          have Ly := Later.cell hy0
          have hj : (0 : Int) < (j : Int) + 1 := by omega
          have hj0 : (0 : Int) ≤ (j : Int) := by omega
          have hj1 : (j : Int) < (ch.length : Int) := by omega
          have hj2 : (0 : Int) ≤ (j : Int) + 1 := by omega
          have hj3 : (j : Int) + 1 < (ch.length : Int) := by omega
          have hj4 : decide ((0 : Int) < (j : Int) + 1) = true := decide_eq_true (by omega)
          have hj5 : IntKind.i64.wrap ((j : Int) + 1 - 1) = (j : Int) := (by rw [IntWalk.i64_left]; unfold wrap64; omega)
          by_cases hxy : x ≤ y
          · have hxy' : decide (x ≤ y) = true := by simpa using hxy
            go_wp2_with fail
            refine wp_region_later (by kernel_rfl) (by kernel_rfl) ?_
            repeat (go_big_quiet_step ((go_at_call 24; exact later_same (r06Channel _ _))))
            refine wpQuiet_nil ?_
            rintro _ ⟨z, rfl⟩
            have hbz := b_then hbw z.below
            go_wp2
            go_ret
            exact ⟨ret_bool (by
              have : okI ch (j + 1) = false := by simp [okI, Hgx.out, Hgy.out, q, hxy]
              simp [srcB, inc_not hlt this]), b_then hb1 hbz⟩
          · have hxy' : decide (x ≤ y) = false := by simp; omega
            go_wp2_with fail
            refine wp_region_later (by kernel_rfl) (by kernel_rfl) ?_
            repeat (go_big_quiet_step ((go_at_call 24; exact later_same (r06Channel _ _))))
            refine wpQuiet_nil ?_
            rintro _ ⟨z, rfl⟩
            have hbz := b_then hbw z.below
            go_wp2
            go_roundw
            case rel =>
              have hok : okI ch (j + 1) = true := (by have h1 : y < x := (by omega); simp [okI, Hgx.out, Hgy.out, q, h1])
              exact ⟨j + 1 + 1, by omega, by go_num, fun i hi => (by
                rcases Nat.lt_succ_iff_lt_or_eq.1 hi with h1 | rfl
                · exact ha i h1
                · exact hok), hbz⟩
            case measure => simp [intOf]; omega
      · go_wp2_with fail
        refine wp_region_later (by kernel_rfl) (by kernel_rfl) ?_
        repeat (go_big_quiet_step ((go_at_call 24; exact later_same (r06Channel _ _))))
        refine wpQuiet_nil ?_
        rintro _ ⟨z, rfl⟩
        have hbz := b_then hbw z.below
        go_wp2
        go_ret
        exact ⟨ret_bool (by
          have : okI ch k = false := by simp [okI, Hgx.out, q]
          simp [srcB, inc_not hlt this]), b_then hb1 hbz⟩
    · have hinc := inc_all (ch := ch) (fun i hi => ha i (by omega))
      have Hi := Lib.hid hinc
      clear hinc ha
      go_wp2_with fail
      refine (r05Point ⟨px, py⟩ _).mono ?_
      rintro e w2 ⟨rfl, hb2⟩
      have hbz := b_then hbw hb2
      have t2 := box_at hbz HW.out 2 rfl
      have t4 := box_at hbz HW.out 4 rfl
      have t5 := box_at hbz HW.out 5 rfl
      have t6 := box_at hbz HW.out 6 rfl
      have hfin : srcB ⟨⟨px, py⟩, pow, ch, per, frm, to⟩ = (ptB ⟨px, py⟩ && powB pow && perB ⟨⟨px, py⟩, pow, ch, per, frm, to⟩) := by simp [srcB, Hi.out]
      have Hfin := Lib.hid hfin
      clear hfin
      rcases Bool.eq_false_or_eq_true (ptB ⟨px, py⟩) with q | q
      · rw [q]
        go_wp2_with fail
        refine (r04Is pow _).mono ?_
        rintro e w' ⟨rfl, rfl⟩
        rcases Bool.eq_false_or_eq_true (powB pow) with q2 | q2
        · rw [q2]
          go_wp2
          all_goals (go_ret; exact ⟨ret_bool (by rw [Hfin.out, q, q2, Bool.eq_iff_iff]; simp [perB]; try omega), b_then hb1 hbz⟩)
        · rw [q2]
          go_wp2
          go_ret
          exact ⟨ret_bool (by rw [Hfin.out, q, q2]; rfl), b_then hb1 hbz⟩
      · rw [q]
        go_wp2
        go_ret
        exact ⟨ret_bool (by rw [Hfin.out, q]; rfl), b_then hb1 hbz⟩
/-! ### Fadings -/
theorem sNode (n : Int) (w : World) : Calls Tryz.prog 103 #[.int .i64 n] w fun e w' => e = .returned (.bool (ndB n)) ∧ w = w' := by
  go_enter Tryz.func103, Tryz.ntmps103
  go_wp2
  all_goals (go_ret; exact ⟨ret_bool (by rw [Bool.eq_iff_iff]; simp [ndB]; try omega), rfl⟩)
theorem sFade1 (n : Int) (w : World) : Calls Tryz.prog 102 #[.int .i64 n] w fun e w' => e = .returned (.bool (endB n)) ∧ w = w' := by
  by_cases h : n = -1
  · subst h
    go_enter Tryz.func102, Tryz.ntmps102
    go_wp2
    go_ret
    exact ⟨rfl, rfl⟩
  · have g : (n == -1) = false := by simpa using h
    go_enter Tryz.func102, Tryz.ntmps102
    go_wp2_with (go_at_call 103; refine (sNode _ _).mono ?_; rintro e w' ⟨rfl, rfl⟩)
    go_ret
    exact ⟨ret_bool (by simp [endB, h]), rfl⟩
theorem sFade (f : Fd) (w : World) : Calls Tryz.prog 86 #[.agg #[.int .i64 (f).frm, .int .i64 (f).to, .int .i64 (f).ch, .int .i64 (f).first, .int .i64 (f).til, .int .i64 (f).fac]] w fun e w' => e = .returned (.bool (fdB f)) ∧ Below w.heap.size w w' := by
  have hu := Tryz.underlying95
  obtain ⟨frm, to, ch, first, til, fac⟩ := f
  dsimp only
  go_enter Tryz.func86, Tryz.ntmps86
  go_wp2_with (first | (go_at_call 102; (with_reducible refine (sFade1 _ _).mono ?_); rintro e w' ⟨rfl, rfl⟩) | (go_at_call 66; (with_reducible refine (sChannel _ _).mono ?_); rintro e w' ⟨rfl, rfl⟩) | (go_at_call 69; (with_reducible refine (sInterval _ _ _).mono ?_); rintro e w' ⟨rfl, rfl⟩))
  all_goals (go_ret; exact ⟨ret_bool (by rw [Bool.eq_iff_iff]; simp [fdB, *]; try omega), by (repeat (first | exact Below.refl _ _ | assumption | apply b_alloc | apply b_drewN | apply b_drew))⟩)
theorem r06fade (f : Fd) (w : World) : Calls Tryz.prog 64 #[.agg #[.int .i64 (f).frm, .int .i64 (f).to, .int .i64 (f).ch, .int .i64 (f).first, .int .i64 (f).til, .int .i64 (f).fac]] w fun e w' => e = .returned (.bool (fdB f)) ∧ Below w.heap.size w w' := by
  have hu := Tryz.underlying95
  obtain ⟨frm, to, ch, first, til, fac⟩ := f
  dsimp only
  go_enter Tryz.func64, Tryz.ntmps64
  go_wp2_with (go_at_call 25; refine (r06Interval _ _ _).mono ?_; rintro e w' ⟨rfl, rfl⟩)
  all_goals (go_ret; exact ⟨ret_bool (by rw [Bool.eq_iff_iff]; simp [fdB, endB, ndB, chB, *]; try omega), by (repeat (first | exact Below.refl _ _ | assumption | apply b_alloc | apply b_drewN | apply b_drew))⟩)
end Go.Proofs.YtpbhoeaadnemhaaGreat
