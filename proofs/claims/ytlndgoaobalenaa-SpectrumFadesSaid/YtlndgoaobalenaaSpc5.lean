/- Walks: the reference's On and Duty; few. -/
import Derived.Test.YtlndgoaobalenaaSpc4
namespace Go.Proofs.Ytlndgoaobalenaa
open Go.RowKit
set_option linter.unusedVariables false
set_option linter.unusedSimpArgs false
set_option maxHeartbeats 4000000
set_option maxRecDepth 100000
theorem r06On (s : Src) (v : Value) (f t : Int) (w : World) (h : SlV 1 KI w v s.ch) : Calls Try.prog 15 #[.agg #[.int .i64 (s).pt.x, .int .i64 (s).pt.y, .int .i64 (s).pow, v, .int .i64 (s).per, .int .i64 (s).frm, .int .i64 (s).to], .int .i64 f, .int .i64 t] w fun e w' => e = .returned (.bool (isOn s f t)) ∧ Below w.heap.size w w' := by
  have hu := Try.underlying30
  go_enter Try.func15, Try.ntmps15
  go_wp2_with fail
  refine (r06Source s v _ (h.mono KI.st (by (repeat (first | exact Below.refl _ _ | assumption | apply b_alloc | apply b_drewN | apply b_drew))))).mono ?_
  rintro e w2 ⟨rfl, hb2⟩
  have hbz := b_then (show Below w.heap.size w _ by (repeat (first | exact Below.refl _ _ | assumption | apply b_alloc | apply b_drewN | apply b_drew))) hb2
  obtain ⟨hc, hf⟩ := bcell hb2
  rcases Bool.eq_false_or_eq_true (srcB s) with q | q
  · have Hq := Lib.hid q
    rw [q]
    go_wp2_with fail
    refine (r06Interval _ _ _).mono ?_
    rintro e w3 ⟨rfl, rfl⟩
    rcases Bool.eq_false_or_eq_true (ivB f t) with r | r
    · have Hr := Lib.hid r
      rw [r]
      obtain ⟨p0, p1, p2, p3, p4⟩ := srcB_per q
      obtain ⟨i0, i1, i2⟩ := ivB_is r
      clear q r
      have r0 : 0 ≤ f % s.per := Int.emod_nonneg _ (by omega)
      have r1 : f % s.per < s.per := Int.emod_lt_of_pos _ (by omega)
      by_cases e2 : s.frm = s.to
      · have g2 : (s.frm == s.to) = true := by simpa using e2
        have E2 := Lib.hid e2
        clear e2
        go_wp2
        go_ret
        exact ⟨ret_bool (by simp [isOn, onB, E2.out]), hbz⟩
      · have g2 : (s.frm == s.to) = false := by simpa using e2
        by_cases e1 : f = t
        · have g1 : (f == t) = true := by simpa using e1
          have E1 := Lib.hid e1
          clear e1
          go_wp2
          go_ret
          exact ⟨ret_bool (by simp [isOn, onB, E1.out]), hbz⟩
        · have g1 : (f == t) = false := by simpa using e1
          go_wp2
          all_goals (go_ret; exact ⟨ret_bool (by rw [Bool.eq_iff_iff]; simp [isOn, Hq.out, Hr.out, onB, e1, e2]; try omega), hbz⟩)
    · rw [r]
      go_wp2
      go_ret
      exact ⟨ret_bool (by simp [isOn, r]), hbz⟩
  · rw [q]
    go_wp2
    go_ret
    exact ⟨ret_bool (by simp [isOn, q]), hbz⟩
theorem r06Duty (s : Src) (v : Value) (w : World) (h : SlV 1 KI w v s.ch) : Calls Try.prog 17 #[.agg #[.int .i64 (s).pt.x, .int .i64 (s).pt.y, .int .i64 (s).pow, v, .int .i64 (s).per, .int .i64 (s).frm, .int .i64 (s).to]] w fun e w' => e = .returned (.int .i64 (dutyI s)) ∧ Below w.heap.size w w' := by
  have hu := Try.underlying30
  go_enter Try.func17, Try.ntmps17
  go_wp2_with fail
  refine (r06Source s v _ (h.mono KI.st (by (repeat (first | exact Below.refl _ _ | assumption | apply b_alloc | apply b_drewN | apply b_drew))))).mono ?_
  rintro e w2 ⟨rfl, hb2⟩
  have hbz := b_then (show Below w.heap.size w _ by (repeat (first | exact Below.refl _ _ | assumption | apply b_alloc | apply b_drewN | apply b_drew))) hb2
  obtain ⟨hc, hf⟩ := bcell hb2
  rcases Bool.eq_false_or_eq_true (srcB s) with q | q
  · have Hq := Lib.hid q
    obtain ⟨p0, p1, p2, p3, p4⟩ := srcB_per q
    rw [q]
    go_wp2
    go_ret
    exact ⟨ret_int (by simp [dutyI, Hq.out, Int.mul_comm]), hbz⟩
  · rw [q]
    go_wp2
    go_ret
    exact ⟨ret_int (by simp [dutyI, q]), hbz⟩
/-- Few transmitters and fadings, with few channels. -/
def fewB (x : Spm) : Bool := decide (x.srcs.length ≤ 20) && decide (x.fds.length ≤ 70) && x.srcs.all fun s => decide (s.ch.length ≤ 20)
theorem r06Few (x : Spm) (v : Value) (w : World) (hx : SpmV w v x) : Calls Try.prog 11 #[v] w fun e w' => e = .returned (.bool (fewB x)) ∧ Below w.heap.size w w' := by
  have hu := Try.underlying25
  have hus := Try.underlying30
  obtain ⟨srcs, fds⟩ := x
  obtain ⟨v0, v1, rfl, ⟨A0, c0, rfl, hc0, hm0, hr0⟩, ⟨A1, c1, rfl, hc1, hm1, hr1⟩⟩ := hx
  dsimp only at *
  unfold big at hm0 hm1
  obtain ⟨W1, hW1⟩ : ∃ W1, W1 = w.alloc (.cells #[.slice A0 srcs.length c0, .slice A1 fds.length c1] 25) := ⟨_, rfl⟩
  have hb1 : Below w.heap.size w W1 := by rw [hW1]; (repeat (first | exact Below.refl _ _ | assumption | apply b_alloc | apply b_drewN | apply b_drew))
  have HW := Lib.hid hW1
  clear hW1
  go_enter Try.func11, Try.ntmps11
  by_cases hh : srcs.length ≤ 20 ∧ fds.length ≤ 70
  · obtain ⟨q0, q1⟩ := hh
    have g0 : decide (20 < (srcs.length : Int)) = false := by simp; omega
    have g1 : decide (70 < (fds.length : Int)) = false := by simp; omega
    have hfin : fewB ⟨srcs, fds⟩ = srcs.all fun s => decide (s.ch.length ≤ 20) := by simp [fewB, q0, q1]
    have Hfin := Lib.hid hfin
    clear hfin
    go_wp2_with fail
    rw [← HW.out]
    go_loopw [3] (fun i wr => ∃ k : Nat, k ≤ srcs.length ∧ i = .int .i64 k ∧ allTo (fun s : Src => decide (s.ch.length ≤ 20)) srcs k ∧ Below W1.heap.size W1 wr) (fun i _ => srcs.length - (intOf i).toNat)
    case atStart => exact ⟨0, Nat.zero_le _, rfl, allTo.zero _ _, Below.refl _ _⟩
    case round =>
      obtain ⟨k, hk, rfl, ha, hbw⟩ := hrel
      have t0 := box_at hbw HW.out 0 rfl
      by_cases hlt : k < srcs.length
      · obtain ⟨x, hx⟩ : ∃ x, srcs[k]? = some x := ⟨_, List.getElem?_eq_getElem hlt⟩
        obtain ⟨b, off, u, rfl, ⟨A, c, rfl, hc, hm, hr⟩, e0, e1, e2, e3, e4, e5, e6⟩ := hr0.src (b_then hb1 hbw) hx
        have Hx := Lib.hid hx
        clear hx
        unfold big at hm
        by_cases hq : x.ch.length ≤ 20
        · have hq' : decide (20 < (x.ch.length : Int)) = false := by simp; omega
          go_wp2
          go_roundw
          case rel => exact ⟨k + 1, by omega, by go_num, ha.succ Hx.out (by simp; omega), hbw⟩
          case measure => simp [intOf]; omega
        · have hq' : decide (20 < (x.ch.length : Int)) = true := by simp; omega
          have HQ := Lib.hid hq
          clear hq
          go_wp2
          go_ret
          exact ⟨ret_bool (by rw [Hfin.out]; exact (all_false Hx.out (by simpa using HQ.out)).symm), b_then hb1 hbw⟩
      · go_wp2
        go_ret
        exact ⟨ret_bool (by rw [Hfin.out]; exact (ha.all (show srcs.length ≤ k by omega)).symm), b_then hb1 hbw⟩
  · have hfin : fewB ⟨srcs, fds⟩ = false := by
      rw [Bool.eq_false_iff]; intro h; apply hh; simp [fewB] at h; omega
    have Hfin := Lib.hid hfin
    have hn : 20 < srcs.length ∨ 70 < fds.length := by omega
    have HN := Lib.hid hn
    clear hfin hh hn
    go_wp2_with fail
    all_goals first
      | (go_ret; exact ⟨ret_bool (by rw [Hfin.out]), by (repeat (first | exact Below.refl _ _ | assumption | apply b_alloc | apply b_drewN | apply b_drew))⟩)
      | (exfalso; have := HN.out; omega)
end Go.Proofs.Ytlndgoaobalenaa
