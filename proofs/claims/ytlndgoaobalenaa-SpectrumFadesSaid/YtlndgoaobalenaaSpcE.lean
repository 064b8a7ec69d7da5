/- Walks: the reference's factor. -/
import Derived.Test.YtlndgoaobalenaaSpcD
import Derived.Test.YtlndgoaobalenaaSpc7
namespace Go.Proofs.Ytlndgoaobalenaa
open Go.RowKit
attribute [local go_sem high] max2_mx min2_mn max_two min_two
set_option linter.unusedVariables false
set_option linter.unusedSimpArgs false
set_option maxHeartbeats 4000000
set_option maxRecDepth 100000
theorem r06factor (x : Spm) (xv : Value) (a b c t : Int) (w : World) (hx : SpmV w xv x) : Calls Try.prog 56 #[xv, .int .i64 a, .int .i64 b, .int .i64 c, .int .i64 t] w fun e w' => e = .returned (.int .i64 (factorI x a b c t)) ∧ Below w.heap.size w w' := by
  have hu := Try.underlying25
  have hu2 := Try.underlying47
  have hx' := Lib.hid hx
  obtain ⟨x0, x1, rfl, h3, h4⟩ := hx
  have H3 := Lib.hid h3
  have H4 := Lib.hid h4
  obtain ⟨A3, c3, rfl, hc3, hm3, hr3⟩ := h3
  obtain ⟨A4, c4, rfl, hc4, hm4, hr4⟩ := h4
  unfold big at hm3 hm4
  obtain ⟨W1, hW1⟩ : ∃ W : World, W = (w.alloc (.cells #[.slice A3 x.srcs.length c3, .slice A4 x.fds.length c4] 25)) := ⟨_, rfl⟩
  have hb1 : Below w.heap.size w W1 := by rw [hW1]; (repeat (first | exact Below.refl _ _ | assumption | apply b_alloc | apply b_drewN | apply b_drew))
  have q : ∀ wr : World, Below W1.heap.size W1 wr → wr.cell? ⟨w.heap.size, 0, none⟩ = some (.slice A3 x.srcs.length c3) ∧ wr.cell? ⟨w.heap.size, 1, none⟩ = some (.slice A4 x.fds.length c4) := fun wr hwr => ⟨cell_mono hwr (by rw [hW1]; go_simp), cell_mono hwr (by rw [hW1]; go_simp)⟩
  have HW := Lib.hid hW1
  clear hW1
  go_enter Try.func56, Try.ntmps56
  go_wp2_with fail
  rw [← HW.out]
  go_loopw [11, 12] (fun o i wr => ∃ k : Nat, k ≤ x.fds.length ∧ i = .int .i64 k ∧ o = .int .i64 (leastI (fun f => appB f a b c t) (x.fds.take k)) ∧ Below W1.heap.size W1 wr) (fun _ i _ => x.fds.length - (intOf i).toNat)
  case atStart => exact ⟨0, Nat.zero_le _, rfl, rfl, Below.refl _ _⟩
  case round =>
    obtain ⟨k, hk, rfl, rfl, hbw⟩ := hrel
    obtain ⟨l0, l1⟩ := q _ hbw
    by_cases hlt : k < x.fds.length
    · obtain ⟨f, hf⟩ : ∃ f, x.fds[k]? = some f := ⟨_, List.getElem?_eq_getElem hlt⟩
      obtain ⟨b0, off, hAe, e0, e1, e2, e3, e4, e5⟩ := hr4.fd (b_then hb1 hbw) hf
      subst hAe
      have hsn := least_snoc (fun f => appB f a b c t) hf
      generalize hpg : leastI (fun f => appB f a b c t) (x.fds.take k) = pk at hsn ⊢
      have Hsn := Lib.hid hsn
      clear hf hsn hpg
      obtain ⟨frm, to, ch, first, til, fac⟩ := f
      dsimp only at *
      have hap : appB ⟨frm, to, ch, first, til, fac⟩ a b c t = ((decide (frm = -1) || decide (frm = a)) && (decide (to = -1) || decide (to = b)) && (decide (ch = -1) || decide (ch = c)) && decide (first ≤ t) && decide (t < til)) := rfl
      generalize hA : appB ⟨frm, to, ch, first, til, fac⟩ a b c t = A at hap Hsn
      have Hap := Lib.hid hap
      clear hA hap
      go_wp2_with fail
      all_goals
        (go_roundw
         case rel => exact ⟨k + 1, by omega, by go_num, by rw [Hsn.out, Hap.out]; simp [*] <;> (try (intros; omega)), b_alloc hbw _⟩
         case measure => simp [intOf]; omega)
    · go_wp2
      go_ret
      exact ⟨ret_int (by rw [List.take_of_length_le (by omega)]; rfl), b_then hb1 hbw⟩
theorem r06Factor (x : Spm) (xv : Value) (a b c t : Int) (w : World) (hx : SpmV w xv x) : Calls Try.prog 27 #[xv, .int .i64 a, .int .i64 b, .int .i64 c, .int .i64 t] w fun e w' => e = .returned (.tuple #[.int .i64 (facN x a b c t), .int .i64 (facE x a b c t)]) ∧ Below w.heap.size w w' := by
  have hu := Try.underlying25
  have hx' := Lib.hid hx
  obtain ⟨x0, x1, rfl, h3, h4⟩ := hx
  have H3 := Lib.hid h3
  have H4 := Lib.hid h4
  obtain ⟨A3, c3, rfl, hc3, hm3, hr3⟩ := h3
  obtain ⟨A4, c4, rfl, hc4, hm4, hr4⟩ := h4
  unfold big at hm3 hm4
  obtain ⟨R, hR⟩ : ∃ R, facE x a b c t = R := ⟨_, rfl⟩
  obtain ⟨N, hN⟩ : ∃ N, facN x a b c t = N := ⟨_, rfl⟩
  rw [hR, hN]
  have HR := Lib.hid hR
  have HN := Lib.hid hN
  clear hR hN
  obtain ⟨W1, hW1⟩ : ∃ W : World, W = (w.alloc (.cells #[.slice A3 x.srcs.length c3, .slice A4 x.fds.length c4] 25)) := ⟨_, rfl⟩
  have hb1 : Below w.heap.size w W1 := by rw [hW1]; (repeat (first | exact Below.refl _ _ | assumption | apply b_alloc | apply b_drewN | apply b_drew))
  have q : ∀ wr : World, Below W1.heap.size W1 wr → wr.cell? ⟨w.heap.size, 0, none⟩ = some (.slice A3 x.srcs.length c3) ∧ wr.cell? ⟨w.heap.size, 1, none⟩ = some (.slice A4 x.fds.length c4) := fun wr hwr => ⟨cell_mono hwr (by rw [hW1]; go_simp), cell_mono hwr (by rw [hW1]; go_simp)⟩
  have HW := Lib.hid hW1
  clear hW1
  go_enter Try.func27, Try.ntmps27
  go_wp2_with fail
  rw [← HW.out]
  have hbA1 : Below W1.heap.size W1 W1 := Below.refl _ _
  refine (r06Check x _ _ (hx'.out.mono hb1)).mono ?_
  rintro e w2 ⟨rfl, hbA2⟩
  have hbz2 := b_then hb1 hbA2
  obtain ⟨l20, l21⟩ := q _ hbA2
  rcases Bool.eq_false_or_eq_true (spmB x) with z | z
  · rw [z, okN_true]
    have Q := Lib.hid z
    clear z
    by_cases G : (0 ≤ a ∧ a < 32) ∧ (0 ≤ b ∧ b < 32)
    · obtain ⟨⟨ia0, ia1⟩, ⟨ib0, ib1⟩⟩ := G
      have hnd : (ndB a && ndB b) = true := by simp [ndB]; omega
      have Hnd := Lib.hid hnd
      clear hnd
      go_wp2_with fail
      refine (r06Channel c _).mono ?_
      rintro e wf ⟨rfl, rfl⟩
      rcases Bool.eq_false_or_eq_true (chB c) with z1 | z1
      · rw [z1]
        have Q1 := Lib.hid z1
        clear z1
        go_wp2_with fail
        refine (r06time t _).mono ?_
        rintro e wf ⟨rfl, rfl⟩
        rcases Bool.eq_false_or_eq_true (tmB t) with z2 | z2
        · rw [z2]
          have Q2 := Lib.hid z2
          clear z2
          have hRe : R = 0 := by rw [← HR.out]; simp only [facE, Q.out, Q1.out, Q2.out, Hnd.out]; rfl
          subst hRe
          have hNe : N = factorI x a b c t := by rw [← HN.out, facN, HR.out]; rfl
          subst hNe
          go_wp2_with fail
          refine (r06factor x _ a b c t _ (hx'.out.mono hbz2)).mono ?_
          rintro e w3 ⟨rfl, hb3⟩
          have hbA3 := b_then hbA2 hb3
          have hbz3 := b_then hb1 hbA3
          obtain ⟨l30, l31⟩ := q _ hbA3
          go_wp2
          go_ret2
          exact ⟨rfl, hbz3⟩
        · rw [z2]
          have hRe : R = 2 := by rw [← HR.out]; simp only [facE, Q.out, Q1.out, Hnd.out, z2]; rfl
          subst hRe
          have hNe : N = 0 := by rw [← HN.out, facN, HR.out]; rfl
          subst hNe
          go_wp2
          go_ret2
          exact ⟨rfl, hbz2⟩
      · rw [z1]
        have hRe : R = 2 := by rw [← HR.out]; simp only [facE, Q.out, Hnd.out, z1]; rfl
        subst hRe
        have hNe : N = 0 := by rw [← HN.out, facN, HR.out]; rfl
        subst hNe
        go_wp2
        go_ret2
        exact ⟨rfl, hbz2⟩
    · have hnd : (ndB a && ndB b) = false := by rw [Bool.eq_false_iff]; intro h; apply G; simp [ndB] at h; omega
      have HG := Lib.hid G
      clear G
      have hRe : R = 2 := by rw [← HR.out]; simp only [facE, Q.out, hnd]; rfl
      subst hRe
      have hNe : N = 0 := by rw [← HN.out, facN, HR.out]; rfl
      subst hNe
      go_wp2_with fail
      all_goals first
        | (go_ret2; exact ⟨rfl, hbz2⟩)
        | (exfalso; have := HG.out; omega)
  · rw [z, okN_false]
    have hRe : R = 1 := by rw [← HR.out]; simp only [facE, z]; rfl
    subst hRe
    have hNe : N = 0 := by rw [← HN.out, facN, HR.out]; rfl
    subst hNe
    go_wp2
    go_ret2
    exact ⟨rfl, hbz2⟩
end Go.Proofs.Ytlndgoaobalenaa
