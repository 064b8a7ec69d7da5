/- Powers between nodes: both sides. -/
import Derived.Test.YtlndgoaobalenaaSpec6
namespace Go.Proofs.Ytlndgoaobalenaa
open Go.RowKit
attribute [local go_sem high] max2_mx min2_mn max_two min_two
set_option linter.unusedVariables false
set_option linter.unusedSimpArgs false
set_option maxHeartbeats 4000000
set_option maxRecDepth 100000
theorem gBetween0 (s : Site) (v : Value) (a b : Int) (w : World) (hs : SiteV w v s) (hv : siteB s = true) (ha : inB s a = true) (hb : inB s b = true) :
    Calls Try.prog 91 #[v, .int .i64 a, .int .i64 b] w fun e w' => e = .returned (.int .i64 (betweenI s a b)) ∧ Below w.heap.size w w' := by
  have hu := Try.underlying45
  have hu2 := Try.underlying27
  have hs' := Lib.hid hs
  obtain ⟨v0, v1, v2, rfl, h0, h1, h2⟩ := hs
  obtain ⟨A0, c0, rfl, hc0, hm0, hr0⟩ := h0
  obtain ⟨A1, c1, rfl, hc1, hm1, hr1⟩ := h1
  obtain ⟨A2, c2, rfl, hc2, hm2, hr2⟩ := h2
  unfold big at hm0 hm1 hm2
  obtain ⟨W1, hW1⟩ : ∃ W : World, W = (w.alloc (.cells #[.slice A0 s.nodes.length c0, .slice A1 s.powers.length c1, .slice A2 s.walls.length c2, .int .i64 s.ex, .int .i64 s.noise, .int .i64 s.thr] 45)) := ⟨_, rfl⟩
  have hb1 : Below w.heap.size w W1 := by rw [hW1]; (repeat (first | exact Below.refl _ _ | assumption | apply b_alloc | apply b_drewN | apply b_drew))
  have q : ∀ wr : World, Below W1.heap.size W1 wr → wr.cell? ⟨w.heap.size, 0, none⟩ = some (.slice A0 s.nodes.length c0) ∧ wr.cell? ⟨w.heap.size, 1, none⟩ = some (.slice A1 s.powers.length c1) ∧ wr.cell? ⟨w.heap.size, 2, none⟩ = some (.slice A2 s.walls.length c2) ∧ wr.cell? ⟨w.heap.size, 3, none⟩ = some (.int .i64 s.ex) ∧ wr.cell? ⟨w.heap.size, 4, none⟩ = some (.int .i64 s.noise) ∧ wr.cell? ⟨w.heap.size, 5, none⟩ = some (.int .i64 s.thr) := fun wr hwr => ⟨cell_mono hwr (by rw [hW1]; go_simp), cell_mono hwr (by rw [hW1]; go_simp), cell_mono hwr (by rw [hW1]; go_simp), cell_mono hwr (by rw [hW1]; go_simp), cell_mono hwr (by rw [hW1]; go_simp), cell_mono hwr (by rw [hW1]; go_simp)⟩
  have HW := Lib.hid hW1
  clear hW1
  by_cases hab : a = b
  · subst hab
    have hr : betweenI s a a = 0 := by simp [betweenI]
    rw [hr]
    go_enter Try.func91, Try.ntmps91
    go_wp2
    go_ret
    exact ⟨rfl, by (repeat (first | exact Below.refl _ _ | assumption | apply b_alloc | apply b_drewN | apply b_drew))⟩
  · have hr : betweenI s a b = atI s (nodeI s a) (powI s a) (nodeI s b) := by simp [betweenI, hab]
    rw [hr]
    have hab' : (a == b) = false := by simpa using hab
    have pa := node_pt hv ha
    have pb := node_pt hv hb
    have pp := pow_pow hv ha
    have hbzq := hb1
    have na := node_at ha
    have nb := node_at hb
    have npa := pow_at hv ha
    obtain ⟨hlen0, hlen1, hlen2, hlen3⟩ := site_len hv
    have hl2 : (s.powers.length : Int) = (s.nodes.length : Int) := by omega
    obtain ⟨ia0, ia1⟩ := inB_is ha
    obtain ⟨ib0, ib1⟩ := inB_is hb
    have ia2 : a < (s.powers.length : Int) := by omega
    obtain ⟨Bn, on, hAe, d0, d1⟩ := hr0.pt hbzq na
    subst hAe
    obtain ⟨_, _, hAe, f0, f1⟩ := hr0.pt hbzq nb
    cases hAe
    obtain ⟨Bp, op, hAe, g0⟩ := hr1.int hbzq npa
    subst hAe
    have D0 := Later.cell d0
    have D1 := Later.cell d1
    have F0 := Later.cell f0
    have F1 := Later.cell f1
    have G0 := Later.cell g0
    clear na nb npa hlen2 hl2
    generalize nodeI s a = P at *
    generalize nodeI s b = P2 at *
    generalize powI s a = pw at *
    have HP1 := Lib.hid pa
    have HP2 := Lib.hid pb
    have HP3 := Lib.hid pp
    have HVv := Lib.hid hv
    have hbA1 : Below W1.heap.size W1 W1 := Below.refl _ _
    have HR := Lib.hid hr
    clear pa pb pp hv hab ha hb hr
    obtain ⟨l0, l1, l2, l3, l4, l5⟩ := q _ hbA1; have Ll0 := Later.cell l0; have Ll1 := Later.cell l1; have Ll2 := Later.cell l2; have Ll3 := Later.cell l3; have Ll4 := Later.cell l4; have Ll5 := Later.cell l5
    go_enter Try.func91, Try.ntmps91
    go_wp2_with fail
    rw [← HW.out]
    have hsL : ∀ z : Later W1, SiteV z.W _ s := fun z => hs'.out.mono (b_then hb1 z.below)
    refine wp_region_later (by kernel_rfl) (by kernel_rfl) ?_
    repeat (go_big_quiet_step ((go_at_call 77; exact later_of (gAt0 s _ P pw P2 _ (hsL _) HVv.out HP1.out HP2.out HP3.out))))
    refine wpQuiet_nil ?_
    rintro _ ⟨z, rfl⟩
    go_wp2
    go_ret
    exact ⟨rfl, b_then hb1 z.below⟩
theorem gBetween (s : Site) (v : Value) (a b : Int) (w : World) (hs : SiteV w v s) :
    Calls Try.prog 81 #[v, .int .i64 a, .int .i64 b] w fun e w' => e = .returned (.tuple #[.int .i64 (btwN s a b), .int .i64 (btwE s a b)]) ∧ Below w.heap.size w w' := by
  have hu := Try.underlying45
  have hs' := Lib.hid hs
  obtain ⟨v0, v1, v2, rfl, h0, h1, h2⟩ := hs
  obtain ⟨A0, c0, rfl, hc0, hm0, hr0⟩ := h0
  obtain ⟨A1, c1, rfl, hc1, hm1, hr1⟩ := h1
  obtain ⟨A2, c2, rfl, hc2, hm2, hr2⟩ := h2
  unfold big at hm0 hm1 hm2
  obtain ⟨R, hR⟩ : ∃ R, btwE s a b = R := ⟨_, rfl⟩
  obtain ⟨N, hN⟩ : ∃ N, btwN s a b = N := ⟨_, rfl⟩
  rw [hR, hN]
  have HR := Lib.hid hR
  have HN := Lib.hid hN
  clear hR hN
  obtain ⟨W1, hW1⟩ : ∃ W : World, W = (w.alloc (.cells #[.slice A0 s.nodes.length c0, .slice A1 s.powers.length c1, .slice A2 s.walls.length c2, .int .i64 s.ex, .int .i64 s.noise, .int .i64 s.thr] 45)) := ⟨_, rfl⟩
  have hb1 : Below w.heap.size w W1 := by rw [hW1]; (repeat (first | exact Below.refl _ _ | assumption | apply b_alloc | apply b_drewN | apply b_drew))
  have q : ∀ wr : World, Below W1.heap.size W1 wr → wr.cell? ⟨w.heap.size, 0, none⟩ = some (.slice A0 s.nodes.length c0) ∧ wr.cell? ⟨w.heap.size, 1, none⟩ = some (.slice A1 s.powers.length c1) ∧ wr.cell? ⟨w.heap.size, 2, none⟩ = some (.slice A2 s.walls.length c2) ∧ wr.cell? ⟨w.heap.size, 3, none⟩ = some (.int .i64 s.ex) ∧ wr.cell? ⟨w.heap.size, 4, none⟩ = some (.int .i64 s.noise) ∧ wr.cell? ⟨w.heap.size, 5, none⟩ = some (.int .i64 s.thr) := fun wr hwr => ⟨cell_mono hwr (by rw [hW1]; go_simp), cell_mono hwr (by rw [hW1]; go_simp), cell_mono hwr (by rw [hW1]; go_simp), cell_mono hwr (by rw [hW1]; go_simp), cell_mono hwr (by rw [hW1]; go_simp), cell_mono hwr (by rw [hW1]; go_simp)⟩
  have HW := Lib.hid hW1
  clear hW1
  go_enter Try.func81, Try.ntmps81
  go_wp2_with fail
  rw [← HW.out]
  have hbA1 : Below W1.heap.size W1 W1 := Below.refl _ _
  refine (gCheck s _ _ (hs'.out.mono hb1)).mono ?_
  rintro e w2 ⟨rfl, hbA2⟩
  have hbz2 := b_then hb1 hbA2
  obtain ⟨l20, l21, l22, l23, l24, l25⟩ := q _ hbA2
  rcases Bool.eq_false_or_eq_true (siteB s) with z | z
  · rw [z, okN_true]
    have Q := Lib.hid z
    clear z
    rcases Bool.eq_false_or_eq_true (inB s a && inB s b) with z1 | z1
    · have Q1 := Lib.hid z1
      simp only [Bool.and_eq_true] at z1
      obtain ⟨ha, hb⟩ := z1
      obtain ⟨ia0, ia1⟩ := inB_is ha
      obtain ⟨ib0, ib1⟩ := inB_is hb
      have j0 : decide (min a b < 0) = false := by simp; omega
      have j1 : decide ((s.nodes.length : Int) ≤ max a b) = false := by simp; omega
      have HA := Lib.hid ha
      have HB := Lib.hid hb
      clear ha hb
      have hRe : R = 0 := by rw [← HR.out]; simp only [btwE, Q.out, Q1.out]; rfl
      subst hRe
      have hNe : N = betweenI s a b := by rw [← HN.out]; simp only [btwN, Q.out, Q1.out]; rfl
      subst hNe
      go_wp2_with fail
      refine (gBetween0 s _ a b _ (hs'.out.mono hbz2) Q.out HA.out HB.out).mono ?_
      rintro e w3 ⟨rfl, hb3⟩
      have hbA3 := b_then hbA2 hb3
      have hbz3 := b_then hb1 hbA3
      obtain ⟨l30, l31, l32, l33, l34, l35⟩ := q _ hbA3
      go_wp2
      go_ret2
      exact ⟨rfl, hbz3⟩
    · have hRe : R = 7 := by rw [← HR.out]; simp only [btwE, Q.out, z1]; rfl
      subst hRe
      have hNe : N = 0 := by rw [← HN.out]; simp only [btwN, Q.out, z1]; rfl
      subst hNe
      have hn : ¬ ((0 ≤ a ∧ a < s.nodes.length) ∧ (0 ≤ b ∧ b < s.nodes.length)) := by
        intro h
        have : (inB s a && inB s b) = true := by simpa [inB] using h
        rw [this] at z1
        cases z1
      have HNn := Lib.hid hn
      clear hn z1
      go_wp2_with fail
      all_goals first
        | (go_ret2; exact ⟨rfl, hbz2⟩)
        | (exfalso; have := HNn.out; omega)
  · rw [z, okN_false]
    have hRe : R = 1 := by rw [← HR.out]; simp only [btwE, z]; rfl
    subst hRe
    have hNe : N = 0 := by rw [← HN.out]; simp only [btwN, z]; rfl
    subst hNe
    go_wp2
    go_ret2
    exact ⟨rfl, hbz2⟩
theorem r05Between (s : Site) (v : Value) (a b : Int) (w : World) (hs : SiteV w v s) :
    Calls Try.prog 59 #[v, .int .i64 a, .int .i64 b] w fun e w' => e = .returned (.tuple #[.int .i64 (btwN s a b), .int .i64 (btwE s a b)]) ∧ Below w.heap.size w w' := by
  have hu := Try.underlying45
  have hu2 := Try.underlying27
  have hs' := Lib.hid hs
  obtain ⟨v0, v1, v2, rfl, h0, h1, h2⟩ := hs
  obtain ⟨A0, c0, rfl, hc0, hm0, hr0⟩ := h0
  obtain ⟨A1, c1, rfl, hc1, hm1, hr1⟩ := h1
  obtain ⟨A2, c2, rfl, hc2, hm2, hr2⟩ := h2
  unfold big at hm0 hm1 hm2
  obtain ⟨R, hR⟩ : ∃ R, btwE s a b = R := ⟨_, rfl⟩
  obtain ⟨N, hN⟩ : ∃ N, btwN s a b = N := ⟨_, rfl⟩
  rw [hR, hN]
  have HR := Lib.hid hR
  have HN := Lib.hid hN
  clear hR hN
  obtain ⟨W1, hW1⟩ : ∃ W : World, W = (w.alloc (.cells #[.slice A0 s.nodes.length c0, .slice A1 s.powers.length c1, .slice A2 s.walls.length c2, .int .i64 s.ex, .int .i64 s.noise, .int .i64 s.thr] 45)) := ⟨_, rfl⟩
  have hb1 : Below w.heap.size w W1 := by rw [hW1]; (repeat (first | exact Below.refl _ _ | assumption | apply b_alloc | apply b_drewN | apply b_drew))
  have q : ∀ wr : World, Below W1.heap.size W1 wr → wr.cell? ⟨w.heap.size, 0, none⟩ = some (.slice A0 s.nodes.length c0) ∧ wr.cell? ⟨w.heap.size, 1, none⟩ = some (.slice A1 s.powers.length c1) ∧ wr.cell? ⟨w.heap.size, 2, none⟩ = some (.slice A2 s.walls.length c2) ∧ wr.cell? ⟨w.heap.size, 3, none⟩ = some (.int .i64 s.ex) ∧ wr.cell? ⟨w.heap.size, 4, none⟩ = some (.int .i64 s.noise) ∧ wr.cell? ⟨w.heap.size, 5, none⟩ = some (.int .i64 s.thr) := fun wr hwr => ⟨cell_mono hwr (by rw [hW1]; go_simp), cell_mono hwr (by rw [hW1]; go_simp), cell_mono hwr (by rw [hW1]; go_simp), cell_mono hwr (by rw [hW1]; go_simp), cell_mono hwr (by rw [hW1]; go_simp), cell_mono hwr (by rw [hW1]; go_simp)⟩
  have HW := Lib.hid hW1
  clear hW1
  go_enter Try.func59, Try.ntmps59
  go_wp2_with fail
  rw [← HW.out]
  have hbA1 : Below W1.heap.size W1 W1 := Below.refl _ _
  refine (r05Check s _ _ (hs'.out.mono hb1)).mono ?_
  rintro e w2 ⟨rfl, hbA2⟩
  have hbz2 := b_then hb1 hbA2
  obtain ⟨l20, l21, l22, l23, l24, l25⟩ := q _ hbA2
  rcases Bool.eq_false_or_eq_true (siteB s) with z | z
  · rw [z, okN_true]
    rcases Bool.eq_false_or_eq_true (inB s a && inB s b) with z1 | z1
    · have hv := z
      have Q := Lib.hid z
      have Q1 := Lib.hid z1
      simp only [Bool.and_eq_true] at z1
      obtain ⟨ha, hb⟩ := z1
      have hRe : R = 0 := by rw [← HR.out]; simp only [btwE, Q.out, Q1.out]; rfl
      subst hRe
      have hNe : N = betweenI s a b := by rw [← HN.out]; simp only [btwN, Q.out, Q1.out]; rfl
      have pa := node_pt hv ha
      have pb := node_pt hv hb
      have pp := pow_pow hv ha
      have hbzq := hbz2
      clear z
      by_cases hab : a = b
      · subst hab
        have hr : betweenI s a a = 0 := by simp [betweenI]
        rw [hr] at hNe
        subst hNe
        obtain ⟨ia0, ia1⟩ := inB_is ha
        have HZ := Lib.hid hv
        clear hr hv ha hb pa pb pp
        go_wp2
        go_ret2
        exact ⟨rfl, hbz2⟩
      · have hr : betweenI s a b = atI s (nodeI s a) (powI s a) (nodeI s b) := by simp [betweenI, hab]
        rw [hr] at hNe
        have hab' : (a == b) = false := by simpa using hab
        have na := node_at ha
        have nb := node_at hb
        have npa := pow_at hv ha
        obtain ⟨hlen0, hlen1, hlen2, hlen3⟩ := site_len hv
        have hl2 : (s.powers.length : Int) = (s.nodes.length : Int) := by omega
        obtain ⟨ia0, ia1⟩ := inB_is ha
        obtain ⟨ib0, ib1⟩ := inB_is hb
        have ia2 : a < (s.powers.length : Int) := by omega
        obtain ⟨Bn, on, hAe, d0, d1⟩ := hr0.pt hbzq na
        subst hAe
        obtain ⟨_, _, hAe, f0, f1⟩ := hr0.pt hbzq nb
        cases hAe
        obtain ⟨Bp, op, hAe, g0⟩ := hr1.int hbzq npa
        subst hAe
        have D0 := Later.cell d0
        have D1 := Later.cell d1
        have F0 := Later.cell f0
        have F1 := Later.cell f1
        have G0 := Later.cell g0
        clear na nb npa hlen2 hl2
        generalize nodeI s a = P at *
        generalize nodeI s b = P2 at *
        generalize powI s a = pw at *
        have HP1 := Lib.hid pa
        have HP2 := Lib.hid pb
        have HP3 := Lib.hid pp
        have HVv := Lib.hid hv
        have HNe := Lib.hid hNe
        have HR' := Lib.hid hr
        clear hNe
        clear pa pb pp hv hab ha hb hr
        obtain ⟨l0, l1, l2, l3, l4, l5⟩ := q _ hbA2; have Ll0 := Later.cell l0; have Ll1 := Later.cell l1; have Ll2 := Later.cell l2; have Ll3 := Later.cell l3; have Ll4 := Later.cell l4; have Ll5 := Later.cell l5
        go_wp2_with fail
        have hsL : ∀ z : Later w2, SiteV z.W _ s := fun z => hs'.out.mono (b_then hbz2 z.below)
        refine wp_region_later (by kernel_rfl) (by kernel_rfl) ?_
        repeat (go_big_quiet_step ((go_at_call 79; exact later_of (r05At0 s _ P pw P2 _ (hsL _) HVv.out HP1.out HP2.out HP3.out))))
        refine wpQuiet_nil ?_
        rintro _ ⟨z, rfl⟩
        go_wp2
        go_ret2
        exact ⟨ret_two (by rw [HNe.out]; rfl) rfl, b_then hbz2 z.below⟩
    · have hRe : R = 7 := by rw [← HR.out]; simp only [btwE, z, z1]; rfl
      subst hRe
      have hNe : N = 0 := by rw [← HN.out]; simp only [btwN, z, z1]; rfl
      subst hNe
      have hn : ¬ ((0 ≤ a ∧ a < s.nodes.length) ∧ (0 ≤ b ∧ b < s.nodes.length)) := by
        intro h
        have : (inB s a && inB s b) = true := by simpa [inB] using h
        rw [this] at z1
        cases z1
      have HNn := Lib.hid hn
      have HZ := Lib.hid z
      clear hn z1 z
      go_wp2_with fail
      all_goals first
        | (go_ret2; exact ⟨rfl, hbz2⟩)
        | (exfalso; have := HNn.out; omega)
  · rw [z, okN_false]
    have hRe : R = 1 := by rw [← HR.out]; simp only [btwE, z]; rfl
    subst hRe
    have hNe : N = 0 := by rw [← HN.out]; simp only [btwN, z]; rfl
    subst hNe
    go_wp2
    go_ret2
    exact ⟨rfl, hbz2⟩
end Go.Proofs.Ytlndgoaobalenaa
