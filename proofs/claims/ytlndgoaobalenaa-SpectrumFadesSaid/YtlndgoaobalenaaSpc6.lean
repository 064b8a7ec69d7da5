/- Walks: the factor of a transmission. -/
import Derived.Test.YtlndgoaobalenaaSpec3
import Derived.Test.YtlndgoaobalenaaSpc5
namespace Go.Proofs.Ytlndgoaobalenaa
open Go.RowKit
attribute [local go_sem high] max2_mx min2_mn max_two min_two
set_option linter.unusedVariables false
set_option linter.unusedSimpArgs false
set_option maxHeartbeats 4000000
set_option maxRecDepth 100000
theorem sBetween (f : Fd) (a b : Int) (w : World) : Calls Try.prog 61 #[.agg #[.int .i64 (f).frm, .int .i64 (f).to, .int .i64 (f).ch, .int .i64 (f).first, .int .i64 (f).til, .int .i64 (f).fac], .int .i64 a, .int .i64 b] w fun e w' => e = .returned (.bool (betB f a b)) ∧ Below w.heap.size w w' := by
  have hu := Try.underlying47
  obtain ⟨frm, to, ch, first, til, fac⟩ := f
  dsimp only
  have hv : betB ⟨frm, to, ch, first, til, fac⟩ a b = ((decide (frm = -1) || decide (frm = a)) && (decide (to = -1) || decide (to = b))) := rfl
  rw [hv]
  have Hv := Lib.hid hv
  clear hv
  go_enter Try.func61, Try.ntmps61
  go_wp2
  all_goals (go_ret; exact ⟨ret_bool (by rw [Bool.eq_iff_iff]; simp [*]), by (repeat (first | exact Below.refl _ _ | assumption | apply b_alloc | apply b_drewN | apply b_drew))⟩)
theorem sFactor1 (f : Fd) (B1 B2 B3 B4 : Nat) (a b c t : Int) (w : World) (h1 : w.cell? ⟨B1, 0, none⟩ = some (.int .i64 a)) (h2 : w.cell? ⟨B2, 0, none⟩ = some (.int .i64 b)) (h3 : w.cell? ⟨B3, 0, none⟩ = some (.int .i64 c)) (h4 : w.cell? ⟨B4, 0, none⟩ = some (.int .i64 t)) :
    Calls Try.prog 80 #[.agg #[.int .i64 (f).frm, .int .i64 (f).to, .int .i64 (f).ch, .int .i64 (f).first, .int .i64 (f).til, .int .i64 (f).fac], .pointer (some ⟨B1, 0, none⟩), .pointer (some ⟨B2, 0, none⟩), .pointer (some ⟨B3, 0, none⟩), .pointer (some ⟨B4, 0, none⟩)] w fun e w' => e = .returned (.bool (appB f a b c t)) ∧ Below w.heap.size w w' := by
  have hu := Try.underlying47
  have hbx : Below w.heap.size w (w.alloc (.cells #[.int .i64 f.frm, .int .i64 f.to, .int .i64 f.ch, .int .i64 f.first, .int .i64 f.til, .int .i64 f.fac] 47)) := by (repeat (first | exact Below.refl _ _ | assumption | apply b_alloc | apply b_drewN | apply b_drew))
  have m1 := cell_mono hbx h1
  have m2 := cell_mono hbx h2
  go_enter Try.func80, Try.ntmps80
  go_wp2_with fail
  refine (sBetween f a b _).mono ?_
  rintro e w2 ⟨rfl, hb2⟩
  have hbz := b_then (show Below w.heap.size w _ by (repeat (first | exact Below.refl _ _ | assumption | apply b_alloc | apply b_drewN | apply b_drew))) hb2
  have t2 := box_at hb2 rfl 2 rfl
  have t3 := box_at hb2 rfl 3 rfl
  have t4 := box_at hb2 rfl 4 rfl
  have h3' := cell_mono hbz h3
  have h4' := cell_mono hbz h4
  rcases Bool.eq_false_or_eq_true (betB f a b) with q | q
  · rw [q]
    have Hq := Lib.hid q
    clear q
    obtain ⟨frm, to, ch, first, til, fac⟩ := f
    dsimp only at *
    rcases Decidable.em (ch = -1) with rfl | c1
    · go_wp2
      all_goals (go_ret; exact ⟨ret_bool (by rw [Bool.eq_iff_iff]; simp [appB, Hq.out]; try omega), hbz⟩)
    · have g1 : (ch == -1) = false := by simpa using c1
      rcases Decidable.em (ch = c) with rfl | c2
      · go_wp2
        all_goals (go_ret; exact ⟨ret_bool (by rw [Bool.eq_iff_iff]; simp [appB, Hq.out]; try omega), hbz⟩)
      · have g2 : (ch == c) = false := by simpa using c2
        go_wp2
        all_goals (go_ret; exact ⟨ret_bool (by rw [Bool.eq_iff_iff]; simp [appB, Hq.out, c1, c2]), hbz⟩)
  · rw [q]
    go_wp2
    go_ret
    exact ⟨ret_bool (by simp [appB, q]), hbz⟩
theorem sLeast1 (fs : List Fd) (v : Value) (B1 B2 B3 B4 : Nat) (a b c t : Int) (w : World) (h : SlV 6 KFd w v fs) (h1 : w.cell? ⟨B1, 0, none⟩ = some (.int .i64 a)) (h2 : w.cell? ⟨B2, 0, none⟩ = some (.int .i64 b)) (h3 : w.cell? ⟨B3, 0, none⟩ = some (.int .i64 c)) (h4 : w.cell? ⟨B4, 0, none⟩ = some (.int .i64 t)) :
    Calls Try.prog 62 #[.agg #[.func (.func 80) #[] #[.pointer (some ⟨B1, 0, none⟩), .pointer (some ⟨B2, 0, none⟩), .pointer (some ⟨B3, 0, none⟩), .pointer (some ⟨B4, 0, none⟩)]], v] w fun e w' => e = .returned (.int .i64 (leastI (fun f => appB f a b c t) fs)) ∧ Below w.heap.size w w' := by
  have hu := Try.underlying47
  have hu2 := Try.underlying83
  obtain ⟨A, c0, rfl, hc, hm, hr⟩ := h
  unfold big at hm
  obtain ⟨W1, hW1⟩ : ∃ W1, W1 = w.alloc (.cells #[.func (.func 80) #[] #[.pointer (some ⟨B1, 0, none⟩), .pointer (some ⟨B2, 0, none⟩), .pointer (some ⟨B3, 0, none⟩), .pointer (some ⟨B4, 0, none⟩)]] 83) := ⟨_, rfl⟩
  have hb1 : Below w.heap.size w W1 := by rw [hW1]; (repeat (first | exact Below.refl _ _ | assumption | apply b_alloc | apply b_drewN | apply b_drew))
  have HW := Lib.hid hW1
  clear hW1
  go_enter Try.func62, Try.ntmps62
  go_wp2_with fail
  rw [← HW.out]
  go_loopw [5, 10] (fun o i wr => ∃ k : Nat, k ≤ fs.length ∧ i = .int .i64 k ∧ o = .int .i64 (leastI (fun f => appB f a b c t) (fs.take k)) ∧ Below W1.heap.size W1 wr) (fun _ i _ => fs.length - (intOf i).toNat)
  case atStart => exact ⟨0, Nat.zero_le _, rfl, rfl, Below.refl _ _⟩
  case round =>
    obtain ⟨k, hk, rfl, rfl, hbw⟩ := hrel
    have t0 := box_at hbw HW.out 0 rfl
    by_cases hlt : k < fs.length
    · obtain ⟨f, hx⟩ : ∃ f, fs[k]? = some f := ⟨_, List.getElem?_eq_getElem hlt⟩
      obtain ⟨b0, off, rfl, e0, e1, e2, e3, e4, e5⟩ := hr.fd (b_then hb1 hbw) hx
      have hsn := least_snoc (fun f => appB f a b c t) hx
      have Hsn := Lib.hid hsn
      clear hx hsn
      have hbn : Below w.heap.size w (wr.alloc (.cells #[.int .i64 f.frm, .int .i64 f.to, .int .i64 f.ch, .int .i64 f.first, .int .i64 f.til, .int .i64 f.fac] 47)) := b_alloc (b_then hb1 hbw) _
      have t0' := box_at (b_then hbw (b_alloc (Below.refl _ _) (.cells #[.int .i64 f.frm, .int .i64 f.to, .int .i64 f.ch, .int .i64 f.first, .int .i64 f.til, .int .i64 f.fac] 47))) HW.out 0 rfl
      go_wp2_with fail
      refine (sFactor1 f B1 B2 B3 B4 a b c t _ (cell_mono hbn h1) (cell_mono hbn h2) (cell_mono hbn h3) (cell_mono hbn h4)).mono ?_
      rintro e w2 ⟨rfl, hb2⟩
      have t5 := box_at hb2 rfl 5 rfl
      rcases Bool.eq_false_or_eq_true (appB f a b c t) with q | q
      · rw [q]
        have Hq := Lib.hid q
        clear q
        go_wp2
        go_roundw
        case rel => exact ⟨k + 1, by omega, by go_num, by rw [Hsn.out]; simp only [Hq.out, if_true], b_then hbw (b_then (b_alloc (Below.refl _ _) _) hb2)⟩
        case measure => simp [intOf]; omega
      · rw [q]
        have Hq := Lib.hid q
        clear q
        go_wp2
        go_roundw
        case rel => exact ⟨k + 1, by omega, by go_num, by rw [Hsn.out]; simp only [Hq.out]; rfl, b_then hbw (b_then (b_alloc (Below.refl _ _) _) hb2)⟩
        case measure => simp [intOf]; omega
    · go_wp2
      go_ret
      exact ⟨ret_int (by rw [List.take_of_length_le (by omega)]), b_then hb1 hbw⟩
end Go.Proofs.Ytlndgoaobalenaa
