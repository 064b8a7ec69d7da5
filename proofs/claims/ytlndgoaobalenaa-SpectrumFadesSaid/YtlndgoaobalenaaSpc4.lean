/- Walks: the checks of a spectrum; when a transmitter is on. -/
import Derived.Test.YtlndgoaobalenaaSpc3
namespace Go.Proofs.Ytlndgoaobalenaa
open Go.RowKit
set_option linter.unusedVariables false
set_option linter.unusedSimpArgs false
set_option maxHeartbeats 4000000
set_option maxRecDepth 100000
theorem sCheck (x : Spm) (v : Value) (w : World) (hx : SpmV w v x) : Calls Try.prog 12 #[v] w fun e w' => e = .returned (.int .i64 (okN (spmB x))) ∧ Below w.heap.size w w' := by
  have hu := Try.underlying25
  obtain ⟨srcs, fds⟩ := x
  obtain ⟨v0, v1, rfl, h0, h1⟩ := hx
  have H0 := Lib.hid h0
  have H1 := Lib.hid h1
  obtain ⟨A0, c0, rfl, hc0, hm0, hr0⟩ := h0
  obtain ⟨A1, c1, rfl, hc1, hm1, hr1⟩ := h1
  dsimp only at *
  unfold big at hm0 hm1
  go_enter Try.func12, Try.ntmps12
  by_cases hh : srcs.length ≤ 16 ∧ fds.length ≤ 64
  · obtain ⟨q0, q1⟩ := hh
    have g0 : decide (16 < (srcs.length : Int)) = false := by simp; omega
    have g1 : decide (64 < (fds.length : Int)) = false := by simp; omega
    have hfin : spmB ⟨srcs, fds⟩ = (srcs.all srcB && fds.all fdB) := by simp [spmB, q0, q1]
    have Hfin := Lib.hid hfin
    clear hfin
    go_wp2_with fail
    have hbx : Below w.heap.size w (w.alloc (.cells #[.slice A0 srcs.length c0, .slice A1 fds.length c1] 25)) := by (repeat (first | exact Below.refl _ _ | assumption | apply b_alloc | apply b_drewN | apply b_drew))
    refine (conSrc srcs _ _ (H0.out.mono KSrc.st hbx)).mono ?_
    rintro e w2 ⟨rfl, hb2⟩
    have hbz := b_then hbx hb2
    have t1 := box_at hb2 rfl 1 rfl
    rw [any_not]
    rcases Bool.eq_false_or_eq_true (srcs.all srcB) with q | q
    · rw [q]
      go_wp2_with fail
      refine (conFd fds _ _ (H1.out.mono KFd.st hbz)).mono ?_
      rintro e w3 ⟨rfl, hb3⟩
      have hbz3 := b_then hbz hb3
      rw [any_not]
      rcases Bool.eq_false_or_eq_true (fds.all fdB) with r | r
      · rw [r]
        go_wp2
        go_ret
        exact ⟨ret_int (by rw [Hfin.out, q, r]; rfl), hbz3⟩
      · rw [r]
        go_wp2
        go_ret
        exact ⟨ret_int (by rw [Hfin.out, q, r]; rfl), hbz3⟩
    · rw [q]
      go_wp2
      go_ret
      exact ⟨ret_int (by rw [Hfin.out, q]; rfl), hbz⟩
  · have hfin : spmB ⟨srcs, fds⟩ = false := by
      rw [Bool.eq_false_iff]; intro h; apply hh; simp [spmB] at h; omega
    have Hfin := Lib.hid hfin
    have hn : 16 < srcs.length ∨ 64 < fds.length := by omega
    have HN := Lib.hid hn
    clear hfin hh hn
    go_wp2_with fail
    all_goals first
      | (go_ret; exact ⟨ret_int (by rw [Hfin.out]; rfl), by (repeat (first | exact Below.refl _ _ | assumption | apply b_alloc | apply b_drewN | apply b_drew))⟩)
      | (exfalso; have := HN.out; omega)
theorem r06Check (x : Spm) (v : Value) (w : World) (hx : SpmV w v x) : Calls Try.prog 13 #[v] w fun e w' => e = .returned (.int .i64 (okN (spmB x))) ∧ Below w.heap.size w w' := by
  have hu := Try.underlying25
  obtain ⟨srcs, fds⟩ := x
  obtain ⟨v0, v1, rfl, ⟨A0, c0, rfl, hc0, hm0, hr0⟩, ⟨A1, c1, rfl, hc1, hm1, hr1⟩⟩ := hx
  dsimp only at *
  unfold big at hm0 hm1
  obtain ⟨W1, hW1⟩ : ∃ W1, W1 = w.alloc (.cells #[.slice A0 srcs.length c0, .slice A1 fds.length c1] 25) := ⟨_, rfl⟩
  have hb1 : Below w.heap.size w W1 := by rw [hW1]; (repeat (first | exact Below.refl _ _ | assumption | apply b_alloc | apply b_drewN | apply b_drew))
  have HW := Lib.hid hW1
  clear hW1
  go_enter Try.func13, Try.ntmps13
  by_cases hh : srcs.length ≤ 16 ∧ fds.length ≤ 64
  · obtain ⟨q0, q1⟩ := hh
    have g0 : decide (16 < (srcs.length : Int)) = false := by simp; omega
    have g1 : decide (64 < (fds.length : Int)) = false := by simp; omega
    have hfin : spmB ⟨srcs, fds⟩ = (srcs.all srcB && fds.all fdB) := by simp [spmB, q0, q1]
    have Hfin := Lib.hid hfin
    clear hfin
    go_wp2_with fail
    rw [← HW.out]
    go_loopw [3] (fun i wr => ∃ k : Nat, k ≤ srcs.length ∧ i = .int .i64 k ∧ allTo srcB srcs k ∧ Below W1.heap.size W1 wr) (fun i _ => srcs.length - (intOf i).toNat)
    case atStart => exact ⟨0, Nat.zero_le _, rfl, allTo.zero _ _, Below.refl _ _⟩
    case round =>
      obtain ⟨k, hk, rfl, ha, hbw⟩ := hrel
      have t0 := box_at hbw HW.out 0 rfl
      by_cases hlt : k < srcs.length
      · obtain ⟨x, hx⟩ : ∃ x, srcs[k]? = some x := ⟨_, List.getElem?_eq_getElem hlt⟩
        obtain ⟨b, off, u, rfl, hu, e0, e1, e2, e3, e4, e5, e6⟩ := hr0.src (b_then hb1 hbw) hx
        have Hx := Lib.hid hx
        clear hx
        go_wp2_with fail
        refine (r06Source x u _ hu).mono ?_
        rintro e w2 ⟨rfl, hb2⟩
        rcases Bool.eq_false_or_eq_true (srcB x) with q | q
        · rw [q]
          go_wp2
          go_roundw
          case rel => exact ⟨k + 1, by omega, by go_num, ha.succ Hx.out q, b_then hbw hb2⟩
          case measure => simp [intOf]; omega
        · rw [q]
          go_wp2
          go_ret
          exact ⟨ret_int (by rw [Hfin.out, all_false Hx.out q]; rfl), b_then hb1 (b_then hbw hb2)⟩
      · have Hn := Lib.hid (ha.all (show srcs.length ≤ k by omega))
        clear ha
        obtain ⟨wo, rfl⟩ : ∃ wo : World, wo = wr := ⟨_, rfl⟩
        go_wp2_with fail
        go_loopw [4] (fun i wr => ∃ k : Nat, k ≤ fds.length ∧ i = .int .i64 k ∧ allTo fdB fds k ∧ Below W1.heap.size W1 wr) (fun i _ => fds.length - (intOf i).toNat)
        case atStart => exact ⟨0, Nat.zero_le _, rfl, allTo.zero _ _, hbw⟩
        case round =>
          clear hbw hlt hk t0
          obtain ⟨k, hk, rfl, ha, hbw⟩ := hrel
          have t1 := box_at hbw HW.out 1 rfl
          by_cases hlt : k < fds.length
          · obtain ⟨x, hx⟩ : ∃ x, fds[k]? = some x := ⟨_, List.getElem?_eq_getElem hlt⟩
            obtain ⟨b, off, rfl, e0, e1, e2, e3, e4, e5⟩ := hr1.fd (b_then hb1 hbw) hx
            have Hx := Lib.hid hx
            clear hx
            go_wp2_with fail
            refine (r06fade x _).mono ?_
            rintro e w2 ⟨rfl, hb2⟩
            rcases Bool.eq_false_or_eq_true (fdB x) with q | q
            · rw [q]
              go_wp2
              go_roundw
              case rel => exact ⟨k + 1, by omega, by go_num, ha.succ Hx.out q, b_then hbw hb2⟩
              case measure => simp [intOf]; omega
            · rw [q]
              go_wp2
              go_ret
              exact ⟨ret_int (by rw [Hfin.out, all_false Hx.out q, Bool.and_false]; rfl), b_then hb1 (b_then hbw hb2)⟩
          · have Hm := Lib.hid (ha.all (show fds.length ≤ k by omega))
            clear ha
            go_wp2
            go_ret
            exact ⟨ret_int (by rw [Hfin.out, Hn.out, Hm.out]; rfl), b_then hb1 hbw⟩
  · have hfin : spmB ⟨srcs, fds⟩ = false := by
      rw [Bool.eq_false_iff]; intro h; apply hh; simp [spmB] at h; omega
    have Hfin := Lib.hid hfin
    have hn : 16 < srcs.length ∨ 64 < fds.length := by omega
    have HN := Lib.hid hn
    clear hfin hh hn
    go_wp2_with fail
    all_goals first
      | (go_ret; exact ⟨ret_int (by rw [Hfin.out]; rfl), by (repeat (first | exact Below.refl _ _ | assumption | apply b_alloc | apply b_drewN | apply b_drew))⟩)
      | (exfalso; have := HN.out; omega)
/-! ### On, Duty -/
theorem sOn0 (s : Src) (v : Value) (f t : Int) (w : World) (h : SlV 1 KI w v s.ch) (hs : srcB s = true) (hi : ivB f t = true) : Calls Try.prog 42 #[.agg #[.int .i64 (s).pt.x, .int .i64 (s).pt.y, .int .i64 (s).pow, v, .int .i64 (s).per, .int .i64 (s).frm, .int .i64 (s).to], .int .i64 f, .int .i64 t] w fun e w' => e = .returned (.bool (onB s f t)) ∧ Below w.heap.size w w' := by
  have hu := Try.underlying30
  obtain ⟨p0, p1, p2, p3, p4⟩ := srcB_per hs
  obtain ⟨i0, i1, i2⟩ := ivB_is hi
  clear hs hi
  obtain ⟨⟨px, py⟩, pow, ch, per, frm, to⟩ := s
  dsimp only at *
  have r0 : 0 ≤ f % per := Int.emod_nonneg _ (by omega)
  have r1 : f % per < per := Int.emod_lt_of_pos _ (by omega)
  by_cases e1 : f = t
  · subst e1
    go_enter Try.func42, Try.ntmps42
    go_wp2
    go_ret
    exact ⟨ret_bool (by simp [onB]), by (repeat (first | exact Below.refl _ _ | assumption | apply b_alloc | apply b_drewN | apply b_drew))⟩
  · have g1 : (f == t) = false := by simpa using e1
    by_cases e2 : frm = to
    · subst e2
      go_enter Try.func42, Try.ntmps42
      go_wp2
      go_ret
      exact ⟨ret_bool (by simp [onB]), by (repeat (first | exact Below.refl _ _ | assumption | apply b_alloc | apply b_drewN | apply b_drew))⟩
    · have g2 : (frm == to) = false := by simpa using e2
      go_enter Try.func42, Try.ntmps42
      go_wp2
      all_goals (go_ret; exact ⟨ret_bool (by rw [Bool.eq_iff_iff]; simp [onB, e1, e2]; try omega), by (repeat (first | exact Below.refl _ _ | assumption | apply b_alloc | apply b_drewN | apply b_drew))⟩)
theorem sOn (s : Src) (v : Value) (f t : Int) (w : World) (h : SlV 1 KI w v s.ch) : Calls Try.prog 14 #[.agg #[.int .i64 (s).pt.x, .int .i64 (s).pt.y, .int .i64 (s).pow, v, .int .i64 (s).per, .int .i64 (s).frm, .int .i64 (s).to], .int .i64 f, .int .i64 t] w fun e w' => e = .returned (.bool (isOn s f t)) ∧ Below w.heap.size w w' := by
  have hu := Try.underlying30
  go_enter Try.func14, Try.ntmps14
  go_wp2_with fail
  refine (sSource s v _ (h.mono KI.st (by (repeat (first | exact Below.refl _ _ | assumption | apply b_alloc | apply b_drewN | apply b_drew))))).mono ?_
  rintro e w2 ⟨rfl, hb2⟩
  have hbz := b_then (show Below w.heap.size w _ by (repeat (first | exact Below.refl _ _ | assumption | apply b_alloc | apply b_drewN | apply b_drew))) hb2
  obtain ⟨hc, hf⟩ := bcell hb2
  rcases Bool.eq_false_or_eq_true (srcB s) with q | q
  · have Hq := Lib.hid q
    rw [q]
    go_wp2_with fail
    refine (sInterval _ _ _).mono ?_
    rintro e w3 ⟨rfl, rfl⟩
    rcases Bool.eq_false_or_eq_true (ivB f t) with r | r
    · have Hr := Lib.hid r
      rw [r]
      go_wp2_with fail
      refine (sOn0 s v f t _ (h.mono KI.st hbz) Hq.out Hr.out).mono ?_
      rintro e w4 ⟨rfl, hb4⟩
      go_wp2
      all_goals (go_ret; exact ⟨ret_bool (by simp [isOn, Hq.out, Hr.out, *]), b_then hbz hb4⟩)
    · rw [r]
      go_wp2
      go_ret
      exact ⟨ret_bool (by simp [isOn, r]), hbz⟩
  · rw [q]
    go_wp2
    go_ret
    exact ⟨ret_bool (by simp [isOn, q]), hbz⟩
theorem sDuty (s : Src) (v : Value) (w : World) (h : SlV 1 KI w v s.ch) : Calls Try.prog 16 #[.agg #[.int .i64 (s).pt.x, .int .i64 (s).pt.y, .int .i64 (s).pow, v, .int .i64 (s).per, .int .i64 (s).frm, .int .i64 (s).to]] w fun e w' => e = .returned (.int .i64 (dutyI s)) ∧ Below w.heap.size w w' := by
  have hu := Try.underlying30
  go_enter Try.func16, Try.ntmps16
  go_wp2_with fail
  refine (sSource s v _ (h.mono KI.st (by (repeat (first | exact Below.refl _ _ | assumption | apply b_alloc | apply b_drewN | apply b_drew))))).mono ?_
  rintro e w2 ⟨rfl, hb2⟩
  have hbz := b_then (show Below w.heap.size w _ by (repeat (first | exact Below.refl _ _ | assumption | apply b_alloc | apply b_drewN | apply b_drew))) hb2
  obtain ⟨hc, hf⟩ := bcell hb2
  rcases Bool.eq_false_or_eq_true (srcB s) with q | q
  · have Hq := Lib.hid q
    obtain ⟨p0, p1, p2, p3, p4⟩ := srcB_per q
    rw [q]
    go_wp2
    go_ret
    exact ⟨ret_int (by simp [dutyI, Hq.out]), hbz⟩
  · rw [q]
    go_wp2
    go_ret
    exact ⟨ret_int (by simp [dutyI, q]), hbz⟩
end Go.Proofs.Ytlndgoaobalenaa
