/- Walks: the checks of a spectrum. Walks: the checks of a spectrum; when a transmitter is on. Walks: the reference's On and Duty; few. Walks: the factor of a transmission. Walks: Factor. -/
import Derived.Test.YtpbhoeaadnemhaaGreatM6
import Derived.Test.YtpbhoeaadnemhaaGreatM1
namespace Go.Proofs.YtpbhoeaadnemhaaGreat
open Go.RowKit
set_option linter.unusedVariables false
set_option linter.unusedSimpArgs false
set_option maxHeartbeats 4000000
set_option maxRecDepth 100000
theorem sCheck1 (s : Src) (v : Value) (w : World) (h : SlV 1 KI w v s.ch) : Calls Tryz.prog 82 #[.agg #[.int .i64 (s).pt.x, .int .i64 (s).pt.y, .int .i64 (s).pow, v, .int .i64 (s).per, .int .i64 (s).frm, .int .i64 (s).to]] w fun e w' => e = .returned (.bool (!srcB s)) ∧ Below w.heap.size w w' := by
  have hu := Tryz.underlying54
  have hu2 := Tryz.underlying83
  go_enter Tryz.func82, Tryz.ntmps82
  go_wp2_with fail
  refine (sSource s v _ (h.mono KI.st (by (repeat (first | exact Below.refl _ _ | assumption | apply b_alloc | apply b_drewN | apply b_drew))))).mono ?_
  rintro e w2 ⟨rfl, hb2⟩
  go_wp2
  go_ret
  exact ⟨ret_bool rfl, b_then (by (repeat (first | exact Below.refl _ _ | assumption | apply b_alloc | apply b_drewN | apply b_drew))) hb2⟩
theorem sCheck2 (f : Fd) (w : World) : Calls Tryz.prog 85 #[.agg #[.int .i64 (f).frm, .int .i64 (f).to, .int .i64 (f).ch, .int .i64 (f).first, .int .i64 (f).til, .int .i64 (f).fac]] w fun e w' => e = .returned (.bool (!fdB f)) ∧ Below w.heap.size w w' := by
  have hu2 := Tryz.underlying95
  go_enter Tryz.func85, Tryz.ntmps85
  go_wp2_with fail
  refine (sFade f _).mono ?_
  rintro e w2 ⟨rfl, hb2⟩
  go_wp2
  go_ret
  exact ⟨ret_bool rfl, b_then (by (repeat (first | exact Below.refl _ _ | assumption | apply b_alloc | apply b_drewN | apply b_drew))) hb2⟩
theorem idxSrc (xs : List Src) (v : Value) (w : World) (h : SlV 7 KSrc w v xs)  : Calls Tryz.prog 100 #[v, .func (.func 82) #[] #[]] w fun e w' => e = .returned (.int .i64 (idxI (fun x => !srcB x) xs)) ∧ Below w.heap.size w w' := by
  obtain ⟨A, c, rfl, hc, hm, hr⟩ := h
  unfold big at hm
  go_enter Tryz.func100, Tryz.ntmps100
  go_wp2_with fail
  go_loopw [8] (fun i wr => ∃ k : Nat, k ≤ xs.length ∧ i = .int .i64 k ∧ allTo (fun x => !!srcB x) xs k ∧ Below w.heap.size w wr) (fun i _ => xs.length - (intOf i).toNat)
  case atStart => exact ⟨0, Nat.zero_le _, rfl, allTo.zero _ _, Below.refl _ _⟩
  case round =>
    obtain ⟨k, hk, rfl, ha, hbw⟩ := hrel
    by_cases hlt : k < xs.length
    · obtain ⟨x, hx⟩ : ∃ x, xs[k]? = some x := ⟨_, List.getElem?_eq_getElem hlt⟩
      obtain ⟨b, off, u, rfl, hu, h0, h1, h2, h3, h4, h5, h6⟩ := hr.src hbw hx
      have Hx := Lib.hid hx
      clear hx
      go_wp2_with fail
      refine (sCheck1 x _ _ hu).mono ?_
      rintro e w2 ⟨rfl, hb2⟩
      rcases Bool.eq_false_or_eq_true (!srcB x) with q | q
      · rw [q]
        have Hq := Lib.hid q
        go_wp2
        go_ret
        exact ⟨ret_int (idx_some ha Hx.out Hq.out), b_then hbw hb2⟩
      · rw [q]
        have Hq := Lib.hid q
        go_wp2
        go_roundw
        case rel => exact ⟨k + 1, by omega, by go_num, ha.succ Hx.out (by rw [Hq.out]; rfl), b_then hbw hb2⟩
        case measure => simp [intOf]; omega
    · go_wp2
      go_ret
      exact ⟨ret_int (idx_none ha (by omega)), hbw⟩
theorem conSrc (xs : List Src) (v : Value) (w : World) (h : SlV 7 KSrc w v xs)  : Calls Tryz.prog 81 #[v, .func (.func 82) #[] #[]] w fun e w' => e = .returned (.bool (xs.any fun x => !srcB x)) ∧ Below w.heap.size w w' := by
  have hh := h
  obtain ⟨A, c, rfl, hc, hm, hr⟩ := h
  go_enter Tryz.func81, Tryz.ntmps81
  go_wp2_with fail
  refine (idxSrc xs _ _ hh ).mono ?_
  rintro e w2 ⟨rfl, hb2⟩
  go_wp2
  go_ret
  exact ⟨ret_bool (by rw [← idx_any]), hb2⟩
theorem idxFd (xs : List Fd) (v : Value) (w : World) (h : SlV 6 KFd w v xs)  : Calls Tryz.prog 101 #[v, .func (.func 85) #[] #[]] w fun e w' => e = .returned (.int .i64 (idxI (fun x => !fdB x) xs)) ∧ Below w.heap.size w w' := by
  obtain ⟨A, c, rfl, hc, hm, hr⟩ := h
  unfold big at hm
  go_enter Tryz.func101, Tryz.ntmps101
  go_wp2_with fail
  go_loopw [8] (fun i wr => ∃ k : Nat, k ≤ xs.length ∧ i = .int .i64 k ∧ allTo (fun x => !!fdB x) xs k ∧ Below w.heap.size w wr) (fun i _ => xs.length - (intOf i).toNat)
  case atStart => exact ⟨0, Nat.zero_le _, rfl, allTo.zero _ _, Below.refl _ _⟩
  case round =>
    obtain ⟨k, hk, rfl, ha, hbw⟩ := hrel
    by_cases hlt : k < xs.length
    · obtain ⟨x, hx⟩ : ∃ x, xs[k]? = some x := ⟨_, List.getElem?_eq_getElem hlt⟩
      obtain ⟨b, off, rfl, h0, h1, h2, h3, h4, h5⟩ := hr.fd hbw hx
      have Hx := Lib.hid hx
      clear hx
      go_wp2_with fail
      refine (sCheck2 x _).mono ?_
      rintro e w2 ⟨rfl, hb2⟩
      rcases Bool.eq_false_or_eq_true (!fdB x) with q | q
      · rw [q]
        have Hq := Lib.hid q
        go_wp2
        go_ret
        exact ⟨ret_int (idx_some ha Hx.out Hq.out), b_then hbw hb2⟩
      · rw [q]
        have Hq := Lib.hid q
        go_wp2
        go_roundw
        case rel => exact ⟨k + 1, by omega, by go_num, ha.succ Hx.out (by rw [Hq.out]; rfl), b_then hbw hb2⟩
        case measure => simp [intOf]; omega
    · go_wp2
      go_ret
      exact ⟨ret_int (idx_none ha (by omega)), hbw⟩
theorem conFd (xs : List Fd) (v : Value) (w : World) (h : SlV 6 KFd w v xs)  : Calls Tryz.prog 84 #[v, .func (.func 85) #[] #[]] w fun e w' => e = .returned (.bool (xs.any fun x => !fdB x)) ∧ Below w.heap.size w w' := by
  have hh := h
  obtain ⟨A, c, rfl, hc, hm, hr⟩ := h
  go_enter Tryz.func84, Tryz.ntmps84
  go_wp2_with fail
  refine (idxFd xs _ _ hh ).mono ?_
  rintro e w2 ⟨rfl, hb2⟩
  go_wp2
  go_ret
  exact ⟨ret_bool (by rw [← idx_any]), hb2⟩
end Go.Proofs.YtpbhoeaadnemhaaGreat
namespace Go.Proofs.YtpbhoeaadnemhaaGreat
open Go.RowKit
set_option linter.unusedVariables false
set_option linter.unusedSimpArgs false
set_option maxHeartbeats 4000000
set_option maxRecDepth 100000
theorem sCheck (x : Spm) (v : Value) (w : World) (hx : SpmV w v x) : Calls Tryz.prog 59 #[v] w fun e w' => e = .returned (.int .i64 (okN (spmB x))) ∧ Below w.heap.size w w' := by
  have hu := Tryz.underlying30
  obtain ⟨srcs, fds⟩ := x
  obtain ⟨v0, v1, rfl, h0, h1⟩ := hx
  have H0 := Lib.hid h0
  have H1 := Lib.hid h1
  obtain ⟨A0, c0, rfl, hc0, hm0, hr0⟩ := h0
  obtain ⟨A1, c1, rfl, hc1, hm1, hr1⟩ := h1
  dsimp only at *
  unfold big at hm0 hm1
  go_enter Tryz.func59, Tryz.ntmps59
  by_cases hh : srcs.length ≤ 16 ∧ fds.length ≤ 64
  · obtain ⟨q0, q1⟩ := hh
    have g0 : decide (16 < (srcs.length : Int)) = false := by simp; omega
    have g1 : decide (64 < (fds.length : Int)) = false := by simp; omega
    have hfin : spmB ⟨srcs, fds⟩ = (srcs.all srcB && fds.all fdB) := by simp [spmB, q0, q1]
    have Hfin := Lib.hid hfin
    clear hfin
    go_wp2_with fail
    have hbx : Below w.heap.size w (w.alloc (.cells #[.slice A0 srcs.length c0, .slice A1 fds.length c1] 30)) := by (repeat (first | exact Below.refl _ _ | assumption | apply b_alloc | apply b_drewN | apply b_drew))
    refine (conSrc srcs _ _ (H0.out.mono KSrc.st hbx)).mono ?_
    rintro e w2 ⟨rfl, hb2⟩
    have hbz := b_then hbx hb2
    have t1 := box_at hb2 rfl 1 rfl
    rw [any_not]
    rcases Bool.eq_false_or_eq_true (srcs.all srcB) with q | q
    · rw [q]
      go_wp2_with fail
      refine (conFd fds _ _ (H1.out.mono KFd.st hbz)).mono ?_
      rintro e w3 ⟨rfl, hb3⟩
      have hbz3 := b_then hbz hb3
      rw [any_not]
      rcases Bool.eq_false_or_eq_true (fds.all fdB) with r | r
      · rw [r]
        go_wp2
        go_ret
        exact ⟨ret_int (by rw [Hfin.out, q, r]; rfl), hbz3⟩
      · rw [r]
        go_wp2
        go_ret
        exact ⟨ret_int (by rw [Hfin.out, q, r]; rfl), hbz3⟩
    · rw [q]
      go_wp2
      go_ret
      exact ⟨ret_int (by rw [Hfin.out, q]; rfl), hbz⟩
  · have hfin : spmB ⟨srcs, fds⟩ = false := by
      rw [Bool.eq_false_iff]; intro h; apply hh; simp [spmB] at h; omega
    have Hfin := Lib.hid hfin
    have hn : 16 < srcs.length ∨ 64 < fds.length := by omega
    have HN := Lib.hid hn
    clear hfin hh hn
    go_wp2_with fail
    all_goals first
      | (go_ret; exact ⟨ret_int (by rw [Hfin.out]; rfl), by (repeat (first | exact Below.refl _ _ | assumption | apply b_alloc | apply b_drewN | apply b_drew))⟩)
      | (exfalso; have := HN.out; omega)
theorem r06Check (x : Spm) (v : Value) (w : World) (hx : SpmV w v x) : Calls Tryz.prog 44 #[v] w fun e w' => e = .returned (.int .i64 (okN (spmB x))) ∧ Below w.heap.size w w' := by
  have hu := Tryz.underlying30
  obtain ⟨srcs, fds⟩ := x
  obtain ⟨v0, v1, rfl, ⟨A0, c0, rfl, hc0, hm0, hr0⟩, ⟨A1, c1, rfl, hc1, hm1, hr1⟩⟩ := hx
  dsimp only at *
  unfold big at hm0 hm1
  obtain ⟨W1, hW1⟩ : ∃ W1, W1 = w.alloc (.cells #[.slice A0 srcs.length c0, .slice A1 fds.length c1] 30) := ⟨_, rfl⟩
  have hb1 : Below w.heap.size w W1 := by rw [hW1]; (repeat (first | exact Below.refl _ _ | assumption | apply b_alloc | apply b_drewN | apply b_drew))
  have HW := Lib.hid hW1
  clear hW1
  go_enter Tryz.func44, Tryz.ntmps44
  by_cases hh : srcs.length ≤ 16 ∧ fds.length ≤ 64
  · obtain ⟨q0, q1⟩ := hh
    have g0 : decide (16 < (srcs.length : Int)) = false := by simp; omega
    have g1 : decide (64 < (fds.length : Int)) = false := by simp; omega
    have hfin : spmB ⟨srcs, fds⟩ = (srcs.all srcB && fds.all fdB) := by simp [spmB, q0, q1]
    have Hfin := Lib.hid hfin
    clear hfin
    go_wp2_with fail
    rw [← HW.out]
    go_loopw [3] (fun i wr => ∃ k : Nat, k ≤ srcs.length ∧ i = .int .i64 k ∧ allTo srcB srcs k ∧ Below W1.heap.size W1 wr) (fun i _ => srcs.length - (intOf i).toNat)
    case atStart => exact ⟨0, Nat.zero_le _, rfl, allTo.zero _ _, Below.refl _ _⟩
    case round =>
      obtain ⟨k, hk, rfl, ha, hbw⟩ := hrel
      have t0 := box_at hbw HW.out 0 rfl
      by_cases hlt : k < srcs.length
      · obtain ⟨x, hx⟩ : ∃ x, srcs[k]? = some x := ⟨_, List.getElem?_eq_getElem hlt⟩
        obtain ⟨b, off, u, rfl, hu, e0, e1, e2, e3, e4, e5, e6⟩ := hr0.src (b_then hb1 hbw) hx
        have Hx := Lib.hid hx
        clear hx
        go_wp2_with fail
        refine (r06Source x u _ hu).mono ?_
        rintro e w2 ⟨rfl, hb2⟩
        rcases Bool.eq_false_or_eq_true (srcB x) with q | q
        · rw [q]
          go_wp2
          go_roundw
          case rel => exact ⟨k + 1, by omega, by go_num, ha.succ Hx.out q, b_then hbw hb2⟩
          case measure => simp [intOf]; omega
        · rw [q]
          go_wp2
          go_ret
          exact ⟨ret_int (by rw [Hfin.out, all_false Hx.out q]; rfl), b_then hb1 (b_then hbw hb2)⟩
      · have Hn := Lib.hid (ha.all (show srcs.length ≤ k by omega))
        clear ha
        obtain ⟨wo, rfl⟩ : ∃ wo : World, wo = wr := ⟨_, rfl⟩
        go_wp2_with fail
        go_loopw [4] (fun i wr => ∃ k : Nat, k ≤ fds.length ∧ i = .int .i64 k ∧ allTo fdB fds k ∧ Below W1.heap.size W1 wr) (fun i _ => fds.length - (intOf i).toNat)
        case atStart => exact ⟨0, Nat.zero_le _, rfl, allTo.zero _ _, hbw⟩
        case round =>
          clear hbw hlt hk t0
          obtain ⟨k, hk, rfl, ha, hbw⟩ := hrel
          have t1 := box_at hbw HW.out 1 rfl
          by_cases hlt : k < fds.length
          · obtain ⟨x, hx⟩ : ∃ x, fds[k]? = some x := ⟨_, List.getElem?_eq_getElem hlt⟩
            obtain ⟨b, off, rfl, e0, e1, e2, e3, e4, e5⟩ := hr1.fd (b_then hb1 hbw) hx
            have Hx := Lib.hid hx
            clear hx
            go_wp2_with fail
            refine (r06fade x _).mono ?_
            rintro e w2 ⟨rfl, hb2⟩
            rcases Bool.eq_false_or_eq_true (fdB x) with q | q
            · rw [q]
              go_wp2
              go_roundw
              case rel => exact ⟨k + 1, by omega, by go_num, ha.succ Hx.out q, b_then hbw hb2⟩
              case measure => simp [intOf]; omega
            · rw [q]
              go_wp2
              go_ret
              exact ⟨ret_int (by rw [Hfin.out, all_false Hx.out q, Bool.and_false]; rfl), b_then hb1 (b_then hbw hb2)⟩
          · have Hm := Lib.hid (ha.all (show fds.length ≤ k by omega))
            clear ha
            go_wp2
            go_ret
            exact ⟨ret_int (by rw [Hfin.out, Hn.out, Hm.out]; rfl), b_then hb1 hbw⟩
  · have hfin : spmB ⟨srcs, fds⟩ = false := by
      rw [Bool.eq_false_iff]; intro h; apply hh; simp [spmB] at h; omega
    have Hfin := Lib.hid hfin
    have hn : 16 < srcs.length ∨ 64 < fds.length := by omega
    have HN := Lib.hid hn
    clear hfin hh hn
    go_wp2_with fail
    all_goals first
      | (go_ret; exact ⟨ret_int (by rw [Hfin.out]; rfl), by (repeat (first | exact Below.refl _ _ | assumption | apply b_alloc | apply b_drewN | apply b_drew))⟩)
      | (exfalso; have := HN.out; omega)
/-! ### On, Duty -/
theorem sOn0 (s : Src) (v : Value) (f t : Int) (w : World) (h : SlV 1 KI w v s.ch) (hs : srcB s = true) (hi : ivB f t = true) : Calls Tryz.prog 93 #[.agg #[.int .i64 (s).pt.x, .int .i64 (s).pt.y, .int .i64 (s).pow, v, .int .i64 (s).per, .int .i64 (s).frm, .int .i64 (s).to], .int .i64 f, .int .i64 t] w fun e w' => e = .returned (.bool (onB s f t)) ∧ Below w.heap.size w w' := by
  have hu := Tryz.underlying83
  obtain ⟨p0, p1, p2, p3, p4⟩ := srcB_per hs
  obtain ⟨i0, i1, i2⟩ := ivB_is hi
  clear hs hi
  obtain ⟨⟨px, py⟩, pow, ch, per, frm, to⟩ := s
  dsimp only at *
  have r0 : 0 ≤ f % per := Int.emod_nonneg _ (by omega)
  have r1 : f % per < per := Int.emod_lt_of_pos _ (by omega)
  by_cases e1 : f = t
  · subst e1
    go_enter Tryz.func93, Tryz.ntmps93
    go_wp2
    go_ret
    exact ⟨ret_bool (by simp [onB]), by (repeat (first | exact Below.refl _ _ | assumption | apply b_alloc | apply b_drewN | apply b_drew))⟩
  · have g1 : (f == t) = false := by simpa using e1
    by_cases e2 : frm = to
    · subst e2
      go_enter Tryz.func93, Tryz.ntmps93
      go_wp2
      go_ret
      exact ⟨ret_bool (by simp [onB]), by (repeat (first | exact Below.refl _ _ | assumption | apply b_alloc | apply b_drewN | apply b_drew))⟩
    · have g2 : (frm == to) = false := by simpa using e2
      go_enter Tryz.func93, Tryz.ntmps93
      go_wp2
      all_goals (go_ret; exact ⟨ret_bool (by rw [Bool.eq_iff_iff]; simp [onB, e1, e2]; try omega), by (repeat (first | exact Below.refl _ _ | assumption | apply b_alloc | apply b_drewN | apply b_drew))⟩)
end Go.Proofs.YtpbhoeaadnemhaaGreat
namespace Go.Proofs.YtpbhoeaadnemhaaGreat
open Go.RowKit
set_option linter.unusedVariables false
set_option linter.unusedSimpArgs false
set_option maxHeartbeats 4000000
set_option maxRecDepth 100000
theorem r06On (s : Src) (v : Value) (f t : Int) (w : World) (h : SlV 1 KI w v s.ch) : Calls Tryz.prog 51 #[.agg #[.int .i64 (s).pt.x, .int .i64 (s).pt.y, .int .i64 (s).pow, v, .int .i64 (s).per, .int .i64 (s).frm, .int .i64 (s).to], .int .i64 f, .int .i64 t] w fun e w' => e = .returned (.bool (isOn s f t)) ∧ Below w.heap.size w w' := by
  have hu := Tryz.underlying83
  go_enter Tryz.func51, Tryz.ntmps51
  go_wp2_with fail
  refine (r06Source s v _ (h.mono KI.st (by (repeat (first | exact Below.refl _ _ | assumption | apply b_alloc | apply b_drewN | apply b_drew))))).mono ?_
  rintro e w2 ⟨rfl, hb2⟩
  have hbz := b_then (show Below w.heap.size w _ by (repeat (first | exact Below.refl _ _ | assumption | apply b_alloc | apply b_drewN | apply b_drew))) hb2
  obtain ⟨hc, hf⟩ := bcell hb2
  rcases Bool.eq_false_or_eq_true (srcB s) with q | q
  · have Hq := Lib.hid q
    rw [q]
    go_wp2_with fail
    refine (r06Interval _ _ _).mono ?_
    rintro e w3 ⟨rfl, rfl⟩
    rcases Bool.eq_false_or_eq_true (ivB f t) with r | r
    · have Hr := Lib.hid r
      rw [r]
      obtain ⟨p0, p1, p2, p3, p4⟩ := srcB_per q
      obtain ⟨i0, i1, i2⟩ := ivB_is r
      clear q r
      have r0 : 0 ≤ f % s.per := Int.emod_nonneg _ (by omega)
      have r1 : f % s.per < s.per := Int.emod_lt_of_pos _ (by omega)
      by_cases e2 : s.frm = s.to
      · have g2 : (s.frm == s.to) = true := by simpa using e2
        have E2 := Lib.hid e2
        clear e2
        go_wp2
        go_ret
        exact ⟨ret_bool (by simp [isOn, onB, E2.out]), hbz⟩
      · have g2 : (s.frm == s.to) = false := by simpa using e2
        by_cases e1 : f = t
        · have g1 : (f == t) = true := by simpa using e1
          have E1 := Lib.hid e1
          clear e1
          go_wp2
          go_ret
          exact ⟨ret_bool (by simp [isOn, onB, E1.out]), hbz⟩
        · have g1 : (f == t) = false := by simpa using e1
          go_wp2
          all_goals (go_ret; exact ⟨ret_bool (by rw [Bool.eq_iff_iff]; simp [isOn, Hq.out, Hr.out, onB, e1, e2]; try omega), hbz⟩)
    · rw [r]
      go_wp2
      go_ret
      exact ⟨ret_bool (by simp [isOn, r]), hbz⟩
  · rw [q]
    go_wp2
    go_ret
    exact ⟨ret_bool (by simp [isOn, q]), hbz⟩
/-- Few transmitters and fadings, with few channels. -/
def fewB (x : Spm) : Bool := decide (x.srcs.length ≤ 20) && decide (x.fds.length ≤ 70) && x.srcs.all fun s => decide (s.ch.length ≤ 20)
theorem r06Few (x : Spm) (v : Value) (w : World) (hx : SpmV w v x) : Calls Tryz.prog 39 #[v] w fun e w' => e = .returned (.bool (fewB x)) ∧ Below w.heap.size w w' := by
  have hu := Tryz.underlying30
  have hus := Tryz.underlying83
  obtain ⟨srcs, fds⟩ := x
  obtain ⟨v0, v1, rfl, ⟨A0, c0, rfl, hc0, hm0, hr0⟩, ⟨A1, c1, rfl, hc1, hm1, hr1⟩⟩ := hx
  dsimp only at *
  unfold big at hm0 hm1
  obtain ⟨W1, hW1⟩ : ∃ W1, W1 = w.alloc (.cells #[.slice A0 srcs.length c0, .slice A1 fds.length c1] 30) := ⟨_, rfl⟩
  have hb1 : Below w.heap.size w W1 := by rw [hW1]; (repeat (first | exact Below.refl _ _ | assumption | apply b_alloc | apply b_drewN | apply b_drew))
  have HW := Lib.hid hW1
  clear hW1
  go_enter Tryz.func39, Tryz.ntmps39
  by_cases hh : srcs.length ≤ 20 ∧ fds.length ≤ 70
  · obtain ⟨q0, q1⟩ := hh
    have g0 : decide (20 < (srcs.length : Int)) = false := by simp; omega
    have g1 : decide (70 < (fds.length : Int)) = false := by simp; omega
    have hfin : fewB ⟨srcs, fds⟩ = srcs.all fun s => decide (s.ch.length ≤ 20) := by simp [fewB, q0, q1]
    have Hfin := Lib.hid hfin
    clear hfin
    go_wp2_with fail
    rw [← HW.out]
    go_loopw [3] (fun i wr => ∃ k : Nat, k ≤ srcs.length ∧ i = .int .i64 k ∧ allTo (fun s : Src => decide (s.ch.length ≤ 20)) srcs k ∧ Below W1.heap.size W1 wr) (fun i _ => srcs.length - (intOf i).toNat)
    case atStart => exact ⟨0, Nat.zero_le _, rfl, allTo.zero _ _, Below.refl _ _⟩
    case round =>
      obtain ⟨k, hk, rfl, ha, hbw⟩ := hrel
      have t0 := box_at hbw HW.out 0 rfl
      by_cases hlt : k < srcs.length
      · obtain ⟨x, hx⟩ : ∃ x, srcs[k]? = some x := ⟨_, List.getElem?_eq_getElem hlt⟩
        obtain ⟨b, off, u, rfl, ⟨A, c, rfl, hc, hm, hr⟩, e0, e1, e2, e3, e4, e5, e6⟩ := hr0.src (b_then hb1 hbw) hx
        have Hx := Lib.hid hx
        clear hx
        unfold big at hm
        by_cases hq : x.ch.length ≤ 20
        · have hq' : decide (20 < (x.ch.length : Int)) = false := by simp; omega
          go_wp2
          go_roundw
          case rel => exact ⟨k + 1, by omega, by go_num, ha.succ Hx.out (by simp; omega), hbw⟩
          case measure => simp [intOf]; omega
        · have hq' : decide (20 < (x.ch.length : Int)) = true := by simp; omega
          have HQ := Lib.hid hq
          clear hq
          go_wp2
          go_ret
          exact ⟨ret_bool (by rw [Hfin.out]; exact (all_false Hx.out (by simpa using HQ.out)).symm), b_then hb1 hbw⟩
      · go_wp2
        go_ret
        exact ⟨ret_bool (by rw [Hfin.out]; exact (ha.all (show srcs.length ≤ k by omega)).symm), b_then hb1 hbw⟩
  · have hfin : fewB ⟨srcs, fds⟩ = false := by
      rw [Bool.eq_false_iff]; intro h; apply hh; simp [fewB] at h; omega
    have Hfin := Lib.hid hfin
    have hn : 20 < srcs.length ∨ 70 < fds.length := by omega
    have HN := Lib.hid hn
    clear hfin hh hn
    go_wp2_with fail
    all_goals first
      | (go_ret; exact ⟨ret_bool (by rw [Hfin.out]), by (repeat (first | exact Below.refl _ _ | assumption | apply b_alloc | apply b_drewN | apply b_drew))⟩)
      | (exfalso; have := HN.out; omega)
end Go.Proofs.YtpbhoeaadnemhaaGreat
namespace Go.Proofs.YtpbhoeaadnemhaaGreat
open Go.RowKit
attribute [local go_sem high] max2_mx min2_mn max_two min_two
set_option linter.unusedVariables false
set_option linter.unusedSimpArgs false
set_option maxHeartbeats 4000000
set_option maxRecDepth 100000
theorem sBetween (f : Fd) (a b : Int) (w : World) : Calls Tryz.prog 89 #[.agg #[.int .i64 (f).frm, .int .i64 (f).to, .int .i64 (f).ch, .int .i64 (f).first, .int .i64 (f).til, .int .i64 (f).fac], .int .i64 a, .int .i64 b] w fun e w' => e = .returned (.bool (betB f a b)) ∧ Below w.heap.size w w' := by
  have hu := Tryz.underlying95
  obtain ⟨frm, to, ch, first, til, fac⟩ := f
  dsimp only
  have hv : betB ⟨frm, to, ch, first, til, fac⟩ a b = ((decide (frm = -1) || decide (frm = a)) && (decide (to = -1) || decide (to = b))) := rfl
  rw [hv]
  have Hv := Lib.hid hv
  clear hv
  go_enter Tryz.func89, Tryz.ntmps89
  go_wp2
  all_goals (go_ret; exact ⟨ret_bool (by rw [Bool.eq_iff_iff]; simp [*]), by (repeat (first | exact Below.refl _ _ | assumption | apply b_alloc | apply b_drewN | apply b_drew))⟩)
theorem sFactor1 (f : Fd) (B1 B2 B3 B4 : Nat) (a b c t : Int) (w : World) (h1 : w.cell? ⟨B1, 0, none⟩ = some (.int .i64 a)) (h2 : w.cell? ⟨B2, 0, none⟩ = some (.int .i64 b)) (h3 : w.cell? ⟨B3, 0, none⟩ = some (.int .i64 c)) (h4 : w.cell? ⟨B4, 0, none⟩ = some (.int .i64 t)) :
    Calls Tryz.prog 88 #[.agg #[.int .i64 (f).frm, .int .i64 (f).to, .int .i64 (f).ch, .int .i64 (f).first, .int .i64 (f).til, .int .i64 (f).fac], .pointer (some ⟨B1, 0, none⟩), .pointer (some ⟨B2, 0, none⟩), .pointer (some ⟨B3, 0, none⟩), .pointer (some ⟨B4, 0, none⟩)] w fun e w' => e = .returned (.bool (appB f a b c t)) ∧ Below w.heap.size w w' := by
  have hu := Tryz.underlying95
  have hbx : Below w.heap.size w (w.alloc (.cells #[.int .i64 f.frm, .int .i64 f.to, .int .i64 f.ch, .int .i64 f.first, .int .i64 f.til, .int .i64 f.fac] 95)) := by (repeat (first | exact Below.refl _ _ | assumption | apply b_alloc | apply b_drewN | apply b_drew))
  have m1 := cell_mono hbx h1
  have m2 := cell_mono hbx h2
  go_enter Tryz.func88, Tryz.ntmps88
  go_wp2_with fail
  refine (sBetween f a b _).mono ?_
  rintro e w2 ⟨rfl, hb2⟩
  have hbz := b_then (show Below w.heap.size w _ by (repeat (first | exact Below.refl _ _ | assumption | apply b_alloc | apply b_drewN | apply b_drew))) hb2
  have t2 := box_at hb2 rfl 2 rfl
  have t3 := box_at hb2 rfl 3 rfl
  have t4 := box_at hb2 rfl 4 rfl
  have h3' := cell_mono hbz h3
  have h4' := cell_mono hbz h4
  rcases Bool.eq_false_or_eq_true (betB f a b) with q | q
  · rw [q]
    have Hq := Lib.hid q
    clear q
    obtain ⟨frm, to, ch, first, til, fac⟩ := f
    dsimp only at *
    rcases Decidable.em (ch = -1) with rfl | c1
    · go_wp2
      all_goals (go_ret; exact ⟨ret_bool (by rw [Bool.eq_iff_iff]; simp [appB, Hq.out]; try omega), hbz⟩)
    · have g1 : (ch == -1) = false := by simpa using c1
      rcases Decidable.em (ch = c) with rfl | c2
      · go_wp2
        all_goals (go_ret; exact ⟨ret_bool (by rw [Bool.eq_iff_iff]; simp [appB, Hq.out]; try omega), hbz⟩)
      · have g2 : (ch == c) = false := by simpa using c2
        go_wp2
        all_goals (go_ret; exact ⟨ret_bool (by rw [Bool.eq_iff_iff]; simp [appB, Hq.out, c1, c2]), hbz⟩)
  · rw [q]
    go_wp2
    go_ret
    exact ⟨ret_bool (by simp [appB, q]), hbz⟩
theorem sLeast1 (fs : List Fd) (v : Value) (B1 B2 B3 B4 : Nat) (a b c t : Int) (w : World) (h : SlV 6 KFd w v fs) (h1 : w.cell? ⟨B1, 0, none⟩ = some (.int .i64 a)) (h2 : w.cell? ⟨B2, 0, none⟩ = some (.int .i64 b)) (h3 : w.cell? ⟨B3, 0, none⟩ = some (.int .i64 c)) (h4 : w.cell? ⟨B4, 0, none⟩ = some (.int .i64 t)) :
    Calls Tryz.prog 90 #[.agg #[.func (.func 88) #[] #[.pointer (some ⟨B1, 0, none⟩), .pointer (some ⟨B2, 0, none⟩), .pointer (some ⟨B3, 0, none⟩), .pointer (some ⟨B4, 0, none⟩)]], v] w fun e w' => e = .returned (.int .i64 (leastI (fun f => appB f a b c t) fs)) ∧ Below w.heap.size w w' := by
  have hu := Tryz.underlying95
  have hu2 := Tryz.underlying110
  obtain ⟨A, c0, rfl, hc, hm, hr⟩ := h
  unfold big at hm
  obtain ⟨W1, hW1⟩ : ∃ W1, W1 = w.alloc (.cells #[.func (.func 88) #[] #[.pointer (some ⟨B1, 0, none⟩), .pointer (some ⟨B2, 0, none⟩), .pointer (some ⟨B3, 0, none⟩), .pointer (some ⟨B4, 0, none⟩)]] 110) := ⟨_, rfl⟩
  have hb1 : Below w.heap.size w W1 := by rw [hW1]; (repeat (first | exact Below.refl _ _ | assumption | apply b_alloc | apply b_drewN | apply b_drew))
  have HW := Lib.hid hW1
  clear hW1
  go_enter Tryz.func90, Tryz.ntmps90
  go_wp2_with fail
  rw [← HW.out]
  go_loopw [5, 10] (fun o i wr => ∃ k : Nat, k ≤ fs.length ∧ i = .int .i64 k ∧ o = .int .i64 (leastI (fun f => appB f a b c t) (fs.take k)) ∧ Below W1.heap.size W1 wr) (fun _ i _ => fs.length - (intOf i).toNat)
  case atStart => exact ⟨0, Nat.zero_le _, rfl, rfl, Below.refl _ _⟩
  case round =>
    obtain ⟨k, hk, rfl, rfl, hbw⟩ := hrel
    have t0 := box_at hbw HW.out 0 rfl
    by_cases hlt : k < fs.length
    · obtain ⟨f, hx⟩ : ∃ f, fs[k]? = some f := ⟨_, List.getElem?_eq_getElem hlt⟩
      obtain ⟨b0, off, rfl, e0, e1, e2, e3, e4, e5⟩ := hr.fd (b_then hb1 hbw) hx
      have hsn := least_snoc (fun f => appB f a b c t) hx
      have Hsn := Lib.hid hsn
      clear hx hsn
      have hbn : Below w.heap.size w (wr.alloc (.cells #[.int .i64 f.frm, .int .i64 f.to, .int .i64 f.ch, .int .i64 f.first, .int .i64 f.til, .int .i64 f.fac] 95)) := b_alloc (b_then hb1 hbw) _
      have t0' := box_at (b_then hbw (b_alloc (Below.refl _ _) (.cells #[.int .i64 f.frm, .int .i64 f.to, .int .i64 f.ch, .int .i64 f.first, .int .i64 f.til, .int .i64 f.fac] 95))) HW.out 0 rfl
      go_wp2_with fail
      refine (sFactor1 f B1 B2 B3 B4 a b c t _ (cell_mono hbn h1) (cell_mono hbn h2) (cell_mono hbn h3) (cell_mono hbn h4)).mono ?_
      rintro e w2 ⟨rfl, hb2⟩
      have t5 := box_at hb2 rfl 5 rfl
      rcases Bool.eq_false_or_eq_true (appB f a b c t) with q | q
      · rw [q]
        have Hq := Lib.hid q
        clear q
        go_wp2
        go_roundw
        case rel => exact ⟨k + 1, by omega, by go_num, by rw [Hsn.out]; simp only [Hq.out, if_true], b_then hbw (b_then (b_alloc (Below.refl _ _) _) hb2)⟩
        case measure => simp [intOf]; omega
      · rw [q]
        have Hq := Lib.hid q
        clear q
        go_wp2
        go_roundw
        case rel => exact ⟨k + 1, by omega, by go_num, by rw [Hsn.out]; simp only [Hq.out]; rfl, b_then hbw (b_then (b_alloc (Below.refl _ _) _) hb2)⟩
        case measure => simp [intOf]; omega
    · go_wp2
      go_ret
      exact ⟨ret_int (by rw [List.take_of_length_le (by omega)]), b_then hb1 hbw⟩
end Go.Proofs.YtpbhoeaadnemhaaGreat
namespace Go.Proofs.YtpbhoeaadnemhaaGreat
open Go.RowKit
attribute [local go_sem high] max2_mx min2_mn max_two min_two
set_option linter.unusedVariables false
set_option linter.unusedSimpArgs false
set_option maxHeartbeats 4000000
set_option maxRecDepth 100000
theorem sFactor0 (x : Spm) (v : Value) (a b c t : Int) (w : World) (hx : SpmV w v x) : Calls Tryz.prog 68 #[v, .int .i64 a, .int .i64 b, .int .i64 c, .int .i64 t] w fun e w' => e = .returned (.int .i64 (factorI x a b c t)) ∧ Below w.heap.size w w' := by
  have hu := Tryz.underlying30
  obtain ⟨srcs, fds⟩ := x
  obtain ⟨v0, v1, rfl, h0, h1⟩ := hx
  dsimp only at *
  go_enter Tryz.func68, Tryz.ntmps68
  go_wp2_with fail
  refine (sLeast1 fds v1 (w.heap.size + 1) (w.heap.size + 1 + 1) (w.heap.size + 1 + 1 + 1) (w.heap.size + 1 + 1 + 1 + 1) a b c t _ (h1.mono KFd.st ?_) ?_ ?_ ?_ ?_).mono ?_
  · (repeat (first | exact Below.refl _ _ | assumption | apply b_alloc | apply b_drewN | apply b_drew))
  · go_simp
  · go_simp
  · go_simp
  · go_simp
  rintro e w2 ⟨rfl, hb2⟩
  go_wp2
  go_ret
  exact ⟨rfl, b_then (by (repeat (first | exact Below.refl _ _ | assumption | apply b_alloc | apply b_drewN | apply b_drew))) hb2⟩
end Go.Proofs.YtpbhoeaadnemhaaGreat
