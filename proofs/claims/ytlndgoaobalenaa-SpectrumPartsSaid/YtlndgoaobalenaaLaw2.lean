/- The law functions: parts of an interval. -/
import Derived.Test.YtlndgoaobalenaaAwake
import Derived.Test.YtlndgoaobalenaaSpec4
namespace Go.Proofs.Ytlndgoaobalenaa
open Go.RowKit
attribute [local go_sem high] max2_mx min2_mn max_two min_two
set_option linter.unusedVariables false
set_option linter.unusedSimpArgs false
set_option maxHeartbeats 4000000
set_option maxRecDepth 100000
theorem sOnV (s : Src) (v : Value) (f t : Int) (w : World) (h : SlV 1 KI w v s.ch) {b : Bool} (hb : isOn s f t = b) : Calls Try.prog 14 #[.agg #[.int .i64 (s).pt.x, .int .i64 (s).pt.y, .int .i64 (s).pow, v, .int .i64 (s).per, .int .i64 (s).frm, .int .i64 (s).to], .int .i64 f, .int .i64 t] w fun e w' => e = .returned (.bool b) ∧ Below w.heap.size w w' := hb ▸ sOn s v f t w h
theorem one_spm (s : Src) : spmB ⟨[s], []⟩ = srcB s := by simp [spmB]
theorem spm_one (s : Src) (v : Value) (W : World) (hs : SlV 1 KI W v s.ch) :
    SpmV (W.alloc (.cells #[.int .i64 s.pt.x, .int .i64 s.pt.y, .int .i64 s.pow, v, .int .i64 s.per, .int .i64 s.frm, .int .i64 s.to] 30)) (.agg #[.slice (some ⟨W.heap.size, 0, none⟩) 1 1, .slice none 0 0]) ⟨[s], []⟩ := by
  refine ⟨_, _, rfl, ⟨_, _, rfl, Nat.le_refl _, by unfold big; simp, fun _ => ⟨_, _, rfl, fun i x hx => ?_⟩⟩, ⟨_, _, rfl, Nat.le_refl _, by unfold big; simp, fun h => absurd rfl h⟩⟩
  rcases i with _ | i
  · obtain rfl : s = x := by simpa using hx
    refine ⟨_, ⟨v, rfl, hs.mono KI.st (by (repeat (first | exact Below.refl _ _ | assumption | apply b_alloc | apply b_drewN | apply b_drew)))⟩, fun j u hu => ?_⟩
    rcases j with _ | _ | _ | _ | _ | _ | _ | j <;> simp at hu <;> subst hu <;> go_simp
  · simp at hx
theorem lParts (s : Src) (sv : Value) (a b c : Int) (w : World) (h : SlV 1 KI w sv s.ch) :
    Calls Try.prog 4 #[.agg #[.int .i64 (s).pt.x, .int .i64 (s).pt.y, .int .i64 (s).pow, sv, .int .i64 (s).per, .int .i64 (s).frm, .int .i64 (s).to], .agg #[.int .i64 a, .int .i64 b, .int .i64 c]] w fun e w' => e = .returned (.bool true) ∧ Below w.heap.size w w' := by
  have hu := Try.underlying25
  have hu2 := Try.underlying30
  have hu3 := Try.underlying40
  have h' := Lib.hid h
  obtain ⟨A, k, rfl, hc, hm, hr⟩ := h
  unfold big at hm
  obtain ⟨W1, hW1⟩ : ∃ W : World, W = ((w.alloc (.cells #[.int .i64 (s).pt.x, .int .i64 (s).pt.y, .int .i64 (s).pow, .slice A s.ch.length k, .int .i64 (s).per, .int .i64 (s).frm, .int .i64 (s).to] 30)).alloc (.cells #[.int .i64 a, .int .i64 b, .int .i64 c] 40)) := ⟨_, rfl⟩
  have hb1 : Below w.heap.size w W1 := by rw [hW1]; (repeat (first | exact Below.refl _ _ | assumption | apply b_alloc | apply b_drewN | apply b_drew))
  have p : ∀ wr : World, Below W1.heap.size W1 wr → wr.cell? ⟨w.heap.size, 0, none⟩ = some (.int .i64 (s).pt.x) ∧ wr.cell? ⟨w.heap.size, 1, none⟩ = some (.int .i64 (s).pt.y) ∧ wr.cell? ⟨w.heap.size, 2, none⟩ = some (.int .i64 (s).pow) ∧ wr.cell? ⟨w.heap.size, 3, none⟩ = some (.slice A s.ch.length k) ∧ wr.cell? ⟨w.heap.size, 4, none⟩ = some (.int .i64 (s).per) ∧ wr.cell? ⟨w.heap.size, 5, none⟩ = some (.int .i64 (s).frm) ∧ wr.cell? ⟨w.heap.size, 6, none⟩ = some (.int .i64 (s).to) ∧ wr.cell? ⟨w.heap.size + 1, 0, none⟩ = some (.int .i64 a) ∧ wr.cell? ⟨w.heap.size + 1, 1, none⟩ = some (.int .i64 b) ∧ wr.cell? ⟨w.heap.size + 1, 2, none⟩ = some (.int .i64 c) := fun wr hwr => ⟨cell_mono hwr (by rw [hW1]; go_simp), cell_mono hwr (by rw [hW1]; go_simp), cell_mono hwr (by rw [hW1]; go_simp), cell_mono hwr (by rw [hW1]; go_simp), cell_mono hwr (by rw [hW1]; go_simp), cell_mono hwr (by rw [hW1]; go_simp), cell_mono hwr (by rw [hW1]; go_simp), cell_mono hwr (by rw [hW1]; go_simp), cell_mono hwr (by rw [hW1]; go_simp), cell_mono hwr (by rw [hW1]; go_simp)⟩
  have HW := Lib.hid hW1
  clear hW1
  go_enter Try.func4, Try.ntmps4
  go_wp2_with fail
  rw [← HW.out]
  refine (awake _).mono ?_
  rintro e w2 ⟨rfl, hb2⟩
  obtain ⟨l0, l1, l2, l3, l4, l5, l6, l7, l8, l9⟩ := p _ hb2; have Ll0 := Later.cell l0; have Ll1 := Later.cell l1; have Ll2 := Later.cell l2; have Ll3 := Later.cell l3; have Ll4 := Later.cell l4; have Ll5 := Later.cell l5; have Ll6 := Later.cell l6; have Ll7 := Later.cell l7; have Ll8 := Later.cell l8; have Ll9 := Later.cell l9
  go_wp2_with fail
  refine wp_region_later (by kernel_rfl) (by kernel_rfl) ?_
  repeat (go_big_quiet_step (fail))
  refine wpQuiet_nil ?_
  rintro _ ⟨z3, rfl⟩
  have hb3 := b_then hb2 z3.below
  have hbz := b_then hb1 hb3
  obtain ⟨w3, hw3⟩ := z3
  simp only at hb3 hbz ⊢
  obtain ⟨m0, m1, m2, m3, m4, m5, m6, m7, m8, m9⟩ := p _ hb3; have Lm0 := Later.cell m0; have Lm1 := Later.cell m1; have Lm2 := Later.cell m2; have Lm3 := Later.cell m3; have Lm4 := Later.cell m4; have Lm5 := Later.cell m5; have Lm6 := Later.cell m6; have Lm7 := Later.cell m7; have Lm8 := Later.cell m8; have Lm9 := Later.cell m9
  by_cases hh : s.ch.length ≤ 20 ∧ 0 ≤ a ∧ a ≤ b ∧ b ≤ c ∧ c < 1099511627776
  · obtain ⟨i0, i1, i2, i3, i4⟩ := hh
    have g0 : decide (20 < (s.ch.length : Int)) = false := by simp; omega
    have hAC := on_parts s i1 i2 i3 (by omega)
    have hAA := on_self s a
    have ew : ∀ x, IntKind.i64.wrap x = wrap64 x := fun x => IntWalk.i64_left x
    have hsL : ∀ z : Later w3, SlV 1 KI z.W (.slice A s.ch.length k) s.ch := fun z => h'.out.mono KI.st (b_then hbz z.below)
    have hB : isOn s b c = isOn s b c := rfl
    rcases Bool.eq_false_or_eq_true (isOn s a b) with hA | hA <;> simp only [hA, Bool.true_or, Bool.false_or] at hAC
    · go_wp2_with fail
      refine wp_region_later (by kernel_rfl) (by kernel_rfl) ?_
      repeat (go_big_quiet_step ((go_at_call 14; exact later_of (sOnV s _ _ _ _ (hsL _) (by with_reducible assumption)))))
      refine wpQuiet_nil ?_
      rintro w4 ⟨⟨_, hw4⟩, he⟩
      simp only at he
      subst he
      have hbz4 := b_then hbz hw4
      have hb4 := b_then hb3 hw4
      obtain ⟨n0, n1, n2, n3, n4, n5, n6, n7, n8, n9⟩ := p _ hb4; have Ln0 := Later.cell n0; have Ln1 := Later.cell n1; have Ln2 := Later.cell n2; have Ln3 := Later.cell n3; have Ln4 := Later.cell n4; have Ln5 := Later.cell n5; have Ln6 := Later.cell n6; have Ln7 := Later.cell n7; have Ln8 := Later.cell n8; have Ln9 := Later.cell n9
      have hX := spm_one s (.slice A s.ch.length k) w4 (h'.out.mono KI.st hbz4)
      go_wp2_with fail
      refine (sCheck ⟨[s], []⟩ _ _ hX).mono ?_
      rintro e w5 ⟨rfl, hb5⟩
      have hb45 := b_then (b_alloc (Below.refl _ _) _) hb5
      have hb0 := b_then hb4 hb45
      have hbz5 := b_then hbz4 hb45
      obtain ⟨o0, o1, o2, o3, o4, o5, o6, o7, o8, o9⟩ := p _ hb0; have Lo0 := Later.cell o0; have Lo1 := Later.cell o1; have Lo2 := Later.cell o2; have Lo3 := Later.cell o3; have Lo4 := Later.cell o4; have Lo5 := Later.cell o5; have Lo6 := Later.cell o6; have Lo7 := Later.cell o7; have Lo8 := Later.cell o8; have Lo9 := Later.cell o9
      have hsL5 : ∀ z : Later w5, SlV 1 KI z.W (.slice A s.ch.length k) s.ch := fun z => h'.out.mono KI.st (b_then hbz5 z.below)
      rw [one_spm]
      rcases Bool.eq_false_or_eq_true (srcB s) with q | q
      · rw [q, okN_true]
        obtain ⟨p0, p1, p2, p3, p4⟩ := srcB_per q
        have hat := on_at s q i1 (by omega)
        have hro := on_round s q i1 (by omega)
        have r0 : 0 ≤ a % s.per := Int.emod_nonneg _ (by omega)
        have r1 : a % s.per < s.per := Int.emod_lt_of_pos _ (by omega)
        have w1 : wrap64 (a + 1) = a + 1 := by unfold wrap64; omega
        have w2' : wrap64 (a + s.per) = a + s.per := by unfold wrap64; omega
        rcases Bool.eq_false_or_eq_true (decide (s.frm ≤ a % s.per)) with t1 | t1 <;> rcases Bool.eq_false_or_eq_true (decide (s.frm < s.to)) with t2 | t2 <;> rcases Bool.eq_false_or_eq_true (decide (a + s.per ≤ 1099511627776)) with t3 | t3
        all_goals
          simp only [t1, t2, t3, Bool.true_and, Bool.false_and, Bool.true_or, Bool.false_or] at hat hro
          have hat2 := hat
          rw [← w1] at hat2
          have hro2 := hro
          rw [← w2'] at hro2
          go_wp2_with fail
          refine wp_region_later (by kernel_rfl) (by kernel_rfl) ?_
          repeat (go_big_quiet_step ((go_at_call 14; exact later_of (sOnV s _ _ _ _ (hsL5 _) (by first | (with_reducible assumption) | exact rfl)))))
          refine wpQuiet_nil ?_
          rintro w6 ⟨⟨_, hw6⟩, he⟩
          simp only at he
          subst he
          go_wp2
          go_ret
          exact ⟨ret_bool (by simp), b_then hbz5 hw6⟩
      · rw [q, okN_false]
        have hf : isOn s a c = false := by simp [isOn, q]
        have hf2 : dutyI s = 0 := by simp [dutyI, q]
        go_wp2_with fail
        refine (sOnV s _ _ _ _ (h'.out.mono KI.st hbz5) hf).mono ?_
        rintro e w6 ⟨rfl, hb6⟩
        obtain ⟨y0, y1, y2, y3, y4, y5, y6, y7, y8, y9⟩ := p _ (b_then hb0 hb6)
        go_wp2_with fail
        refine (sDuty s _ _ (h'.out.mono KI.st (b_then hbz5 hb6))).mono ?_
        rintro e w7 ⟨rfl, hb7⟩
        rw [hf2]
        go_wp2
        go_ret
        exact ⟨rfl, b_then (b_then hbz5 hb6) hb7⟩
    · clear hB
      rcases Bool.eq_false_or_eq_true (isOn s b c) with hB | hB <;> rw [hB] at hAC
      · go_wp2_with fail
        refine wp_region_later (by kernel_rfl) (by kernel_rfl) ?_
        repeat (go_big_quiet_step ((go_at_call 14; exact later_of (sOnV s _ _ _ _ (hsL _) (by with_reducible assumption)))))
        refine wpQuiet_nil ?_
        rintro w4 ⟨⟨_, hw4⟩, he⟩
        simp only at he
        subst he
        have hbz4 := b_then hbz hw4
        have hb4 := b_then hb3 hw4
        obtain ⟨n0, n1, n2, n3, n4, n5, n6, n7, n8, n9⟩ := p _ hb4; have Ln0 := Later.cell n0; have Ln1 := Later.cell n1; have Ln2 := Later.cell n2; have Ln3 := Later.cell n3; have Ln4 := Later.cell n4; have Ln5 := Later.cell n5; have Ln6 := Later.cell n6; have Ln7 := Later.cell n7; have Ln8 := Later.cell n8; have Ln9 := Later.cell n9
        have hX := spm_one s (.slice A s.ch.length k) w4 (h'.out.mono KI.st hbz4)
        go_wp2_with fail
        refine (sCheck ⟨[s], []⟩ _ _ hX).mono ?_
        rintro e w5 ⟨rfl, hb5⟩
        have hb45 := b_then (b_alloc (Below.refl _ _) _) hb5
        have hb0 := b_then hb4 hb45
        have hbz5 := b_then hbz4 hb45
        obtain ⟨o0, o1, o2, o3, o4, o5, o6, o7, o8, o9⟩ := p _ hb0; have Lo0 := Later.cell o0; have Lo1 := Later.cell o1; have Lo2 := Later.cell o2; have Lo3 := Later.cell o3; have Lo4 := Later.cell o4; have Lo5 := Later.cell o5; have Lo6 := Later.cell o6; have Lo7 := Later.cell o7; have Lo8 := Later.cell o8; have Lo9 := Later.cell o9
        have hsL5 : ∀ z : Later w5, SlV 1 KI z.W (.slice A s.ch.length k) s.ch := fun z => h'.out.mono KI.st (b_then hbz5 z.below)
        rw [one_spm]
        rcases Bool.eq_false_or_eq_true (srcB s) with q | q
        · rw [q, okN_true]
          obtain ⟨p0, p1, p2, p3, p4⟩ := srcB_per q
          have hat := on_at s q i1 (by omega)
          have hro := on_round s q i1 (by omega)
          have r0 : 0 ≤ a % s.per := Int.emod_nonneg _ (by omega)
          have r1 : a % s.per < s.per := Int.emod_lt_of_pos _ (by omega)
          have w1 : wrap64 (a + 1) = a + 1 := by unfold wrap64; omega
          have w2' : wrap64 (a + s.per) = a + s.per := by unfold wrap64; omega
          rcases Bool.eq_false_or_eq_true (decide (s.frm ≤ a % s.per)) with t1 | t1 <;> rcases Bool.eq_false_or_eq_true (decide (s.frm < s.to)) with t2 | t2 <;> rcases Bool.eq_false_or_eq_true (decide (a + s.per ≤ 1099511627776)) with t3 | t3
          all_goals
            simp only [t1, t2, t3, Bool.true_and, Bool.false_and, Bool.true_or, Bool.false_or] at hat hro
            have hat2 := hat
            rw [← w1] at hat2
            have hro2 := hro
            rw [← w2'] at hro2
            go_wp2_with fail
            refine wp_region_later (by kernel_rfl) (by kernel_rfl) ?_
            repeat (go_big_quiet_step ((go_at_call 14; exact later_of (sOnV s _ _ _ _ (hsL5 _) (by first | (with_reducible assumption) | exact rfl)))))
            refine wpQuiet_nil ?_
            rintro w6 ⟨⟨_, hw6⟩, he⟩
            simp only at he
            subst he
            go_wp2
            go_ret
            exact ⟨ret_bool (by simp), b_then hbz5 hw6⟩
        · rw [q, okN_false]
          have hf : isOn s a c = false := by simp [isOn, q]
          have hf2 : dutyI s = 0 := by simp [dutyI, q]
          go_wp2_with fail
          refine (sOnV s _ _ _ _ (h'.out.mono KI.st hbz5) hf).mono ?_
          rintro e w6 ⟨rfl, hb6⟩
          obtain ⟨y0, y1, y2, y3, y4, y5, y6, y7, y8, y9⟩ := p _ (b_then hb0 hb6)
          go_wp2_with fail
          refine (sDuty s _ _ (h'.out.mono KI.st (b_then hbz5 hb6))).mono ?_
          rintro e w7 ⟨rfl, hb7⟩
          rw [hf2]
          go_wp2
          go_ret
          exact ⟨rfl, b_then (b_then hbz5 hb6) hb7⟩
      · go_wp2_with fail
        refine wp_region_later (by kernel_rfl) (by kernel_rfl) ?_
        repeat (go_big_quiet_step ((go_at_call 14; exact later_of (sOnV s _ _ _ _ (hsL _) (by with_reducible assumption)))))
        refine wpQuiet_nil ?_
        rintro w4 ⟨⟨_, hw4⟩, he⟩
        simp only at he
        subst he
        have hbz4 := b_then hbz hw4
        have hb4 := b_then hb3 hw4
        obtain ⟨n0, n1, n2, n3, n4, n5, n6, n7, n8, n9⟩ := p _ hb4; have Ln0 := Later.cell n0; have Ln1 := Later.cell n1; have Ln2 := Later.cell n2; have Ln3 := Later.cell n3; have Ln4 := Later.cell n4; have Ln5 := Later.cell n5; have Ln6 := Later.cell n6; have Ln7 := Later.cell n7; have Ln8 := Later.cell n8; have Ln9 := Later.cell n9
        have hX := spm_one s (.slice A s.ch.length k) w4 (h'.out.mono KI.st hbz4)
        go_wp2_with fail
        refine (sCheck ⟨[s], []⟩ _ _ hX).mono ?_
        rintro e w5 ⟨rfl, hb5⟩
        have hb45 := b_then (b_alloc (Below.refl _ _) _) hb5
        have hb0 := b_then hb4 hb45
        have hbz5 := b_then hbz4 hb45
        obtain ⟨o0, o1, o2, o3, o4, o5, o6, o7, o8, o9⟩ := p _ hb0; have Lo0 := Later.cell o0; have Lo1 := Later.cell o1; have Lo2 := Later.cell o2; have Lo3 := Later.cell o3; have Lo4 := Later.cell o4; have Lo5 := Later.cell o5; have Lo6 := Later.cell o6; have Lo7 := Later.cell o7; have Lo8 := Later.cell o8; have Lo9 := Later.cell o9
        have hsL5 : ∀ z : Later w5, SlV 1 KI z.W (.slice A s.ch.length k) s.ch := fun z => h'.out.mono KI.st (b_then hbz5 z.below)
        rw [one_spm]
        rcases Bool.eq_false_or_eq_true (srcB s) with q | q
        · rw [q, okN_true]
          obtain ⟨p0, p1, p2, p3, p4⟩ := srcB_per q
          have hat := on_at s q i1 (by omega)
          have hro := on_round s q i1 (by omega)
          have r0 : 0 ≤ a % s.per := Int.emod_nonneg _ (by omega)
          have r1 : a % s.per < s.per := Int.emod_lt_of_pos _ (by omega)
          have w1 : wrap64 (a + 1) = a + 1 := by unfold wrap64; omega
          have w2' : wrap64 (a + s.per) = a + s.per := by unfold wrap64; omega
          rcases Bool.eq_false_or_eq_true (decide (s.frm ≤ a % s.per)) with t1 | t1 <;> rcases Bool.eq_false_or_eq_true (decide (s.frm < s.to)) with t2 | t2 <;> rcases Bool.eq_false_or_eq_true (decide (a + s.per ≤ 1099511627776)) with t3 | t3
          all_goals
            simp only [t1, t2, t3, Bool.true_and, Bool.false_and, Bool.true_or, Bool.false_or] at hat hro
            have hat2 := hat
            rw [← w1] at hat2
            have hro2 := hro
            rw [← w2'] at hro2
            go_wp2_with fail
            refine wp_region_later (by kernel_rfl) (by kernel_rfl) ?_
            repeat (go_big_quiet_step ((go_at_call 14; exact later_of (sOnV s _ _ _ _ (hsL5 _) (by first | (with_reducible assumption) | exact rfl)))))
            refine wpQuiet_nil ?_
            rintro w6 ⟨⟨_, hw6⟩, he⟩
            simp only at he
            subst he
            go_wp2
            go_ret
            exact ⟨ret_bool (by simp), b_then hbz5 hw6⟩
        · rw [q, okN_false]
          have hf : isOn s a c = false := by simp [isOn, q]
          have hf2 : dutyI s = 0 := by simp [dutyI, q]
          go_wp2_with fail
          refine (sOnV s _ _ _ _ (h'.out.mono KI.st hbz5) hf).mono ?_
          rintro e w6 ⟨rfl, hb6⟩
          obtain ⟨y0, y1, y2, y3, y4, y5, y6, y7, y8, y9⟩ := p _ (b_then hb0 hb6)
          go_wp2_with fail
          refine (sDuty s _ _ (h'.out.mono KI.st (b_then hbz5 hb6))).mono ?_
          rintro e w7 ⟨rfl, hb7⟩
          rw [hf2]
          go_wp2
          go_ret
          exact ⟨rfl, b_then (b_then hbz5 hb6) hb7⟩
  · have hn := Lib.hid hh
    clear hh
    go_wp2_with fail
    all_goals first
      | (go_ret; exact ⟨rfl, hbz⟩)
      | (exfalso; have := hn.out; omega)
end Go.Proofs.Ytlndgoaobalenaa
