/- Walks: the checks of a spectrum. -/
import Derived.Test.YtlndgoaobalenaaSpc2
namespace Go.Proofs.Ytlndgoaobalenaa
open Go.RowKit
set_option linter.unusedVariables false
set_option linter.unusedSimpArgs false
set_option maxHeartbeats 4000000
set_option maxRecDepth 100000
theorem sCheck1 (s : Src) (v : Value) (w : World) (h : SlV 1 KI w v s.ch) : Calls Try.prog 34 #[.agg #[.int .i64 (s).pt.x, .int .i64 (s).pt.y, .int .i64 (s).pow, v, .int .i64 (s).per, .int .i64 (s).frm, .int .i64 (s).to]] w fun e w' => e = .returned (.bool (!srcB s)) ∧ Below w.heap.size w w' := by
  have hu := Try.underlying27
  have hu2 := Try.underlying30
  go_enter Try.func34, Try.ntmps34
  go_wp2_with fail
  refine (sSource s v _ (h.mono KI.st (by (repeat (first | exact Below.refl _ _ | assumption | apply b_alloc | apply b_drewN | apply b_drew))))).mono ?_
  rintro e w2 ⟨rfl, hb2⟩
  go_wp2
  go_ret
  exact ⟨ret_bool rfl, b_then (by (repeat (first | exact Below.refl _ _ | assumption | apply b_alloc | apply b_drewN | apply b_drew))) hb2⟩
theorem sCheck2 (f : Fd) (w : World) : Calls Try.prog 37 #[.agg #[.int .i64 (f).frm, .int .i64 (f).to, .int .i64 (f).ch, .int .i64 (f).first, .int .i64 (f).til, .int .i64 (f).fac]] w fun e w' => e = .returned (.bool (!fdB f)) ∧ Below w.heap.size w w' := by
  have hu2 := Try.underlying47
  go_enter Try.func37, Try.ntmps37
  go_wp2_with fail
  refine (sFade f _).mono ?_
  rintro e w2 ⟨rfl, hb2⟩
  go_wp2
  go_ret
  exact ⟨ret_bool rfl, b_then (by (repeat (first | exact Below.refl _ _ | assumption | apply b_alloc | apply b_drewN | apply b_drew))) hb2⟩
theorem idxSrc (xs : List Src) (v : Value) (w : World) (h : SlV 7 KSrc w v xs)  : Calls Try.prog 63 #[v, .func (.func 34) #[] #[]] w fun e w' => e = .returned (.int .i64 (idxI (fun x => !srcB x) xs)) ∧ Below w.heap.size w w' := by
  obtain ⟨A, c, rfl, hc, hm, hr⟩ := h
  unfold big at hm
  go_enter Try.func63, Try.ntmps63
  go_wp2_with fail
  go_loopw [8] (fun i wr => ∃ k : Nat, k ≤ xs.length ∧ i = .int .i64 k ∧ allTo (fun x => !!srcB x) xs k ∧ Below w.heap.size w wr) (fun i _ => xs.length - (intOf i).toNat)
  case atStart => exact ⟨0, Nat.zero_le _, rfl, allTo.zero _ _, Below.refl _ _⟩
  case round =>
    obtain ⟨k, hk, rfl, ha, hbw⟩ := hrel
    by_cases hlt : k < xs.length
    · obtain ⟨x, hx⟩ : ∃ x, xs[k]? = some x := ⟨_, List.getElem?_eq_getElem hlt⟩
      obtain ⟨b, off, u, rfl, hu, h0, h1, h2, h3, h4, h5, h6⟩ := hr.src hbw hx
      have Hx := Lib.hid hx
      clear hx
      go_wp2_with fail
      refine (sCheck1 x _ _ hu).mono ?_
      rintro e w2 ⟨rfl, hb2⟩
      rcases Bool.eq_false_or_eq_true (!srcB x) with q | q
      · rw [q]
        have Hq := Lib.hid q
        go_wp2
        go_ret
        exact ⟨ret_int (idx_some ha Hx.out Hq.out), b_then hbw hb2⟩
      · rw [q]
        have Hq := Lib.hid q
        go_wp2
        go_roundw
        case rel => exact ⟨k + 1, by omega, by go_num, ha.succ Hx.out (by rw [Hq.out]; rfl), b_then hbw hb2⟩
        case measure => simp [intOf]; omega
    · go_wp2
      go_ret
      exact ⟨ret_int (idx_none ha (by omega)), hbw⟩
theorem conSrc (xs : List Src) (v : Value) (w : World) (h : SlV 7 KSrc w v xs)  : Calls Try.prog 33 #[v, .func (.func 34) #[] #[]] w fun e w' => e = .returned (.bool (xs.any fun x => !srcB x)) ∧ Below w.heap.size w w' := by
  have hh := h
  obtain ⟨A, c, rfl, hc, hm, hr⟩ := h
  go_enter Try.func33, Try.ntmps33
  go_wp2_with fail
  refine (idxSrc xs _ _ hh ).mono ?_
  rintro e w2 ⟨rfl, hb2⟩
  go_wp2
  go_ret
  exact ⟨ret_bool (by rw [← idx_any]), hb2⟩
theorem idxFd (xs : List Fd) (v : Value) (w : World) (h : SlV 6 KFd w v xs)  : Calls Try.prog 64 #[v, .func (.func 37) #[] #[]] w fun e w' => e = .returned (.int .i64 (idxI (fun x => !fdB x) xs)) ∧ Below w.heap.size w w' := by
  obtain ⟨A, c, rfl, hc, hm, hr⟩ := h
  unfold big at hm
  go_enter Try.func64, Try.ntmps64
  go_wp2_with fail
  go_loopw [8] (fun i wr => ∃ k : Nat, k ≤ xs.length ∧ i = .int .i64 k ∧ allTo (fun x => !!fdB x) xs k ∧ Below w.heap.size w wr) (fun i _ => xs.length - (intOf i).toNat)
  case atStart => exact ⟨0, Nat.zero_le _, rfl, allTo.zero _ _, Below.refl _ _⟩
  case round =>
    obtain ⟨k, hk, rfl, ha, hbw⟩ := hrel
    by_cases hlt : k < xs.length
    · obtain ⟨x, hx⟩ : ∃ x, xs[k]? = some x := ⟨_, List.getElem?_eq_getElem hlt⟩
      obtain ⟨b, off, rfl, h0, h1, h2, h3, h4, h5⟩ := hr.fd hbw hx
      have Hx := Lib.hid hx
      clear hx
      go_wp2_with fail
      refine (sCheck2 x _).mono ?_
      rintro e w2 ⟨rfl, hb2⟩
      rcases Bool.eq_false_or_eq_true (!fdB x) with q | q
      · rw [q]
        have Hq := Lib.hid q
        go_wp2
        go_ret
        exact ⟨ret_int (idx_some ha Hx.out Hq.out), b_then hbw hb2⟩
      · rw [q]
        have Hq := Lib.hid q
        go_wp2
        go_roundw
        case rel => exact ⟨k + 1, by omega, by go_num, ha.succ Hx.out (by rw [Hq.out]; rfl), b_then hbw hb2⟩
        case measure => simp [intOf]; omega
    · go_wp2
      go_ret
      exact ⟨ret_int (idx_none ha (by omega)), hbw⟩
theorem conFd (xs : List Fd) (v : Value) (w : World) (h : SlV 6 KFd w v xs)  : Calls Try.prog 36 #[v, .func (.func 37) #[] #[]] w fun e w' => e = .returned (.bool (xs.any fun x => !fdB x)) ∧ Below w.heap.size w w' := by
  have hh := h
  obtain ⟨A, c, rfl, hc, hm, hr⟩ := h
  go_enter Try.func36, Try.ntmps36
  go_wp2_with fail
  refine (idxFd xs _ _ hh ).mono ?_
  rintro e w2 ⟨rfl, hb2⟩
  go_wp2
  go_ret
  exact ⟨ret_bool (by rw [← idx_any]), hb2⟩
end Go.Proofs.Ytlndgoaobalenaa
