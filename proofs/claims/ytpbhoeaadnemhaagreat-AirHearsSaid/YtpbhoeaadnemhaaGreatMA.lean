/- Powers between nodes: both sides. Walks: the reference's factor. Walks: the program's signal and its worst one. Walks: the reference's signal and its worst one. -/
import Derived.Test.YtpbhoeaadnemhaaGreatM8
import Derived.Test.YtpbhoeaadnemhaaGreatM7
import Derived.Test.YtpbhoeaadnemhaaGreatM4
namespace Go.Proofs.YtpbhoeaadnemhaaGreat
open Go.RowKit
attribute [local go_sem high] max2_mx min2_mn max_two min_two
set_option linter.unusedVariables false
set_option linter.unusedSimpArgs false
set_option maxHeartbeats 4000000
set_option maxRecDepth 100000
theorem gBetween0 (s : Site) (v : Value) (a b : Int) (w : World) (hs : SiteV w v s) (hv : siteB s = true) (ha : inB s a = true) (hb : inB s b = true) :
    Calls Tryz.prog 104 #[v, .int .i64 a, .int .i64 b] w fun e w' => e = .returned (.int .i64 (betweenI s a b)) ∧ Below w.heap.size w w' := by
  have hu := Tryz.underlying26
  have hu2 := Tryz.underlying54
  have hs' := Lib.hid hs
  obtain ⟨v0, v1, v2, rfl, h0, h1, h2⟩ := hs
  obtain ⟨A0, c0, rfl, hc0, hm0, hr0⟩ := h0
  obtain ⟨A1, c1, rfl, hc1, hm1, hr1⟩ := h1
  obtain ⟨A2, c2, rfl, hc2, hm2, hr2⟩ := h2
  unfold big at hm0 hm1 hm2
  obtain ⟨W1, hW1⟩ : ∃ W : World, W = (w.alloc (.cells #[.slice A0 s.nodes.length c0, .slice A1 s.powers.length c1, .slice A2 s.walls.length c2, .int .i64 s.ex, .int .i64 s.noise, .int .i64 s.thr] 26)) := ⟨_, rfl⟩; have hb1 : Below w.heap.size w W1 := (by rw [hW1]; (repeat (first | exact Below.refl _ _ | assumption | apply b_alloc | apply b_drewN | apply b_drew))); have q : ∀ wq : World, Below W1.heap.size W1 wq → wq.cell? ⟨w.heap.size, 0, none⟩ = some (.slice A0 s.nodes.length c0) ∧ wq.cell? ⟨w.heap.size, 1, none⟩ = some (.slice A1 s.powers.length c1) ∧ wq.cell? ⟨w.heap.size, 2, none⟩ = some (.slice A2 s.walls.length c2) ∧ wq.cell? ⟨w.heap.size, 3, none⟩ = some (.int .i64 s.ex) ∧ wq.cell? ⟨w.heap.size, 4, none⟩ = some (.int .i64 s.noise) ∧ wq.cell? ⟨w.heap.size, 5, none⟩ = some (.int .i64 s.thr) := (fun wq hwr => ⟨cell_mono hwr (by rw [hW1]; go_simp), cell_mono hwr (by rw [hW1]; go_simp), cell_mono hwr (by rw [hW1]; go_simp), cell_mono hwr (by rw [hW1]; go_simp), cell_mono hwr (by rw [hW1]; go_simp), cell_mono hwr (by rw [hW1]; go_simp)⟩); have HW := Lib.hid hW1; clear hW1
  by_cases hab : a = b
  · subst hab
    have hr : betweenI s a a = 0 := by simp [betweenI]
    rw [hr]
    go_enter Tryz.func104, Tryz.ntmps104
    go_wp2
    go_ret
    exact ⟨rfl, by (repeat (first | exact Below.refl _ _ | assumption | apply b_alloc | apply b_drewN | apply b_drew))⟩
  · have hr : betweenI s a b = atI s (nodeI s a) (powI s a) (nodeI s b) := by simp [betweenI, hab]
    rw [hr]
    have hab' : (a == b) = false := by simpa using hab
    have pa := node_pt hv ha
    have pb := node_pt hv hb
    have pp := pow_pow hv ha
    have hbzq := hb1
    have na := node_at ha
    have nb := node_at hb
    have npa := pow_at hv ha
    obtain ⟨hlen0, hlen1, hlen2, hlen3⟩ := site_len hv
    have hl2 : (s.powers.length : Int) = (s.nodes.length : Int) := by omega
    obtain ⟨ia0, ia1⟩ := inB_is ha
    obtain ⟨ib0, ib1⟩ := inB_is hb
    have ia2 : a < (s.powers.length : Int) := by omega
    obtain ⟨Bn, on, hAe, d0, d1⟩ := hr0.pt hbzq na
    subst hAe
    obtain ⟨_, _, hAe, f0, f1⟩ := hr0.pt hbzq nb
    cases hAe
    obtain ⟨Bp, op, hAe, g0⟩ := hr1.int hbzq npa
    subst hAe
    have D0 := Later.cell d0
    have D1 := Later.cell d1
    have F0 := Later.cell f0
    have F1 := Later.cell f1
    have G0 := Later.cell g0
    clear na nb npa hlen2 hl2
    generalize nodeI s a = P at *
    generalize nodeI s b = P2 at *
    generalize powI s a = pw at *
    have HP1 := Lib.hid pa
    have HP2 := Lib.hid pb
    have HP3 := Lib.hid pp
    have HVv := Lib.hid hv
    have hbA1 : Below W1.heap.size W1 W1 := Below.refl _ _
    have HR := Lib.hid hr
    clear pa pb pp hv hab ha hb hr
    obtain ⟨l0, l1, l2, l3, l4, l5⟩ := q _ hbA1; have Ll0 := Later.cell l0; have Ll1 := Later.cell l1; have Ll2 := Later.cell l2; have Ll3 := Later.cell l3; have Ll4 := Later.cell l4; have Ll5 := Later.cell l5
    go_enter Tryz.func104, Tryz.ntmps104
    go_wp2_with fail
    rw [← HW.out]
    have hsL : ∀ z : Later W1, SiteV z.W _ s := fun z => hs'.out.mono (b_then hb1 z.below)
    refine wp_region_later (by kernel_rfl) (by kernel_rfl) ?_
    repeat (go_big_quiet_step ((go_at_call 94; exact later_of (gAt0 s _ P pw P2 _ (hsL _) HVv.out HP1.out HP2.out HP3.out))))
    refine wpQuiet_nil ?_
    rintro _ ⟨z, rfl⟩
    go_wp2
    go_ret
    exact ⟨rfl, b_then hb1 z.below⟩
theorem gBetween (s : Site) (v : Value) (a b : Int) (w : World) (hs : SiteV w v s) :
    Calls Tryz.prog 87 #[v, .int .i64 a, .int .i64 b] w fun e w' => e = .returned (.tuple #[.int .i64 (btwN s a b), .int .i64 (btwE s a b)]) ∧ Below w.heap.size w w' := by
  have hu := Tryz.underlying26
  have hs' := Lib.hid hs
  obtain ⟨v0, v1, v2, rfl, h0, h1, h2⟩ := hs
  obtain ⟨A0, c0, rfl, hc0, hm0, hr0⟩ := h0
  obtain ⟨A1, c1, rfl, hc1, hm1, hr1⟩ := h1
  obtain ⟨A2, c2, rfl, hc2, hm2, hr2⟩ := h2
  unfold big at hm0 hm1 hm2
  obtain ⟨R, hR⟩ : ∃ R, btwE s a b = R := ⟨_, rfl⟩
  obtain ⟨N, hN⟩ : ∃ N, btwN s a b = N := ⟨_, rfl⟩
  rw [hR, hN]
  have HR := Lib.hid hR
  have HN := Lib.hid hN
  clear hR hN
  obtain ⟨W1, hW1⟩ : ∃ W : World, W = (w.alloc (.cells #[.slice A0 s.nodes.length c0, .slice A1 s.powers.length c1, .slice A2 s.walls.length c2, .int .i64 s.ex, .int .i64 s.noise, .int .i64 s.thr] 26)) := ⟨_, rfl⟩; have hb1 : Below w.heap.size w W1 := (by rw [hW1]; (repeat (first | exact Below.refl _ _ | assumption | apply b_alloc | apply b_drewN | apply b_drew))); have q : ∀ wq : World, Below W1.heap.size W1 wq → wq.cell? ⟨w.heap.size, 0, none⟩ = some (.slice A0 s.nodes.length c0) ∧ wq.cell? ⟨w.heap.size, 1, none⟩ = some (.slice A1 s.powers.length c1) ∧ wq.cell? ⟨w.heap.size, 2, none⟩ = some (.slice A2 s.walls.length c2) ∧ wq.cell? ⟨w.heap.size, 3, none⟩ = some (.int .i64 s.ex) ∧ wq.cell? ⟨w.heap.size, 4, none⟩ = some (.int .i64 s.noise) ∧ wq.cell? ⟨w.heap.size, 5, none⟩ = some (.int .i64 s.thr) := (fun wq hwr => ⟨cell_mono hwr (by rw [hW1]; go_simp), cell_mono hwr (by rw [hW1]; go_simp), cell_mono hwr (by rw [hW1]; go_simp), cell_mono hwr (by rw [hW1]; go_simp), cell_mono hwr (by rw [hW1]; go_simp), cell_mono hwr (by rw [hW1]; go_simp)⟩); have HW := Lib.hid hW1; clear hW1
  go_enter Tryz.func87, Tryz.ntmps87
  go_wp2_with fail
  rw [← HW.out]
  have hbA1 : Below W1.heap.size W1 W1 := Below.refl _ _
  refine (gCheck s _ _ (hs'.out.mono hb1)).mono ?_
  rintro e w2 ⟨rfl, hbA2⟩
  have hbz2 := b_then hb1 hbA2
  obtain ⟨l20, l21, l22, l23, l24, l25⟩ := q _ hbA2
  rcases Bool.eq_false_or_eq_true (siteB s) with z | z
  · rw [z, okN_true]
    have Q := Lib.hid z
    clear z
    rcases Bool.eq_false_or_eq_true (inB s a && inB s b) with z1 | z1
    · have Q1 := Lib.hid z1
      simp only [Bool.and_eq_true] at z1
      obtain ⟨ha, hb⟩ := z1
      obtain ⟨ia0, ia1⟩ := inB_is ha
      obtain ⟨ib0, ib1⟩ := inB_is hb
      have j0 : decide (min a b < 0) = false := by simp; omega
      have j1 : decide ((s.nodes.length : Int) ≤ max a b) = false := by simp; omega
      have HA := Lib.hid ha
      have HB := Lib.hid hb
      clear ha hb
      have hRe : R = 0 := by rw [← HR.out]; simp only [btwE, Q.out, Q1.out]; rfl
      subst hRe
      have hNe : N = betweenI s a b := by rw [← HN.out]; simp only [btwN, Q.out, Q1.out]; rfl
      subst hNe
      go_wp2_with fail
      refine (gBetween0 s _ a b _ (hs'.out.mono hbz2) Q.out HA.out HB.out).mono ?_
      rintro e w3 ⟨rfl, hb3⟩
      have hbA3 := b_then hbA2 hb3
      have hbz3 := b_then hb1 hbA3
      try clear l20 l21 l22 l23 l24 l25
      obtain ⟨l30, l31, l32, l33, l34, l35⟩ := q _ hbA3
      go_wp2
      go_ret2
      exact ⟨rfl, hbz3⟩
    · have hRe : R = 7 := by rw [← HR.out]; simp only [btwE, Q.out, z1]; rfl
      subst hRe
      have hNe : N = 0 := by rw [← HN.out]; simp only [btwN, Q.out, z1]; rfl
      subst hNe
      have hn : ¬ ((0 ≤ a ∧ a < s.nodes.length) ∧ (0 ≤ b ∧ b < s.nodes.length)) := by
        intro h
        have : (inB s a && inB s b) = true := by simpa [inB] using h
        rw [this] at z1
        cases z1
      have HNn := Lib.hid hn
      clear hn z1
      go_wp2_with fail
      all_goals first
        | (go_ret2; exact ⟨rfl, hbz2⟩)
        | (exfalso; have := HNn.out; omega)
  · rw [z, okN_false]
    have hRe : R = 1 := by rw [← HR.out]; simp only [btwE, z]; rfl
    subst hRe
    have hNe : N = 0 := by rw [← HN.out]; simp only [btwN, z]; rfl
    subst hNe
    go_wp2
    go_ret2
    exact ⟨rfl, hbz2⟩
theorem r05Between (s : Site) (v : Value) (a b : Int) (w : World) (hs : SiteV w v s) :
    Calls Tryz.prog 54 #[v, .int .i64 a, .int .i64 b] w fun e w' => e = .returned (.tuple #[.int .i64 (btwN s a b), .int .i64 (btwE s a b)]) ∧ Below w.heap.size w w' := by
  have hu := Tryz.underlying26
  have hu2 := Tryz.underlying54
  have hs' := Lib.hid hs
  obtain ⟨v0, v1, v2, rfl, h0, h1, h2⟩ := hs
  obtain ⟨A0, c0, rfl, hc0, hm0, hr0⟩ := h0
  obtain ⟨A1, c1, rfl, hc1, hm1, hr1⟩ := h1
  obtain ⟨A2, c2, rfl, hc2, hm2, hr2⟩ := h2
  unfold big at hm0 hm1 hm2
  obtain ⟨R, hR⟩ : ∃ R, btwE s a b = R := ⟨_, rfl⟩
  obtain ⟨N, hN⟩ : ∃ N, btwN s a b = N := ⟨_, rfl⟩
  rw [hR, hN]
  have HR := Lib.hid hR
  have HN := Lib.hid hN
  clear hR hN
  obtain ⟨W1, hW1⟩ : ∃ W : World, W = (w.alloc (.cells #[.slice A0 s.nodes.length c0, .slice A1 s.powers.length c1, .slice A2 s.walls.length c2, .int .i64 s.ex, .int .i64 s.noise, .int .i64 s.thr] 26)) := ⟨_, rfl⟩; have hb1 : Below w.heap.size w W1 := (by rw [hW1]; (repeat (first | exact Below.refl _ _ | assumption | apply b_alloc | apply b_drewN | apply b_drew))); have q : ∀ wq : World, Below W1.heap.size W1 wq → wq.cell? ⟨w.heap.size, 0, none⟩ = some (.slice A0 s.nodes.length c0) ∧ wq.cell? ⟨w.heap.size, 1, none⟩ = some (.slice A1 s.powers.length c1) ∧ wq.cell? ⟨w.heap.size, 2, none⟩ = some (.slice A2 s.walls.length c2) ∧ wq.cell? ⟨w.heap.size, 3, none⟩ = some (.int .i64 s.ex) ∧ wq.cell? ⟨w.heap.size, 4, none⟩ = some (.int .i64 s.noise) ∧ wq.cell? ⟨w.heap.size, 5, none⟩ = some (.int .i64 s.thr) := (fun wq hwr => ⟨cell_mono hwr (by rw [hW1]; go_simp), cell_mono hwr (by rw [hW1]; go_simp), cell_mono hwr (by rw [hW1]; go_simp), cell_mono hwr (by rw [hW1]; go_simp), cell_mono hwr (by rw [hW1]; go_simp), cell_mono hwr (by rw [hW1]; go_simp)⟩); have HW := Lib.hid hW1; clear hW1
  go_enter Tryz.func54, Tryz.ntmps54
  go_wp2_with fail
  rw [← HW.out]
  have hbA1 : Below W1.heap.size W1 W1 := Below.refl _ _
  refine (r05Check s _ _ (hs'.out.mono hb1)).mono ?_
  rintro e w2 ⟨rfl, hbA2⟩
  have hbz2 := b_then hb1 hbA2
  obtain ⟨l20, l21, l22, l23, l24, l25⟩ := q _ hbA2
  rcases Bool.eq_false_or_eq_true (siteB s) with z | z
  · rw [z, okN_true]
    rcases Bool.eq_false_or_eq_true (inB s a && inB s b) with z1 | z1
    · have hv := z
      have Q := Lib.hid z
      have Q1 := Lib.hid z1
      simp only [Bool.and_eq_true] at z1
      obtain ⟨ha, hb⟩ := z1
      have hRe : R = 0 := by rw [← HR.out]; simp only [btwE, Q.out, Q1.out]; rfl
      subst hRe
      have hNe : N = betweenI s a b := by rw [← HN.out]; simp only [btwN, Q.out, Q1.out]; rfl
      have pa := node_pt hv ha
      have pb := node_pt hv hb
      have pp := pow_pow hv ha
      have hbzq := hbz2
      clear z
      by_cases hab : a = b
      · subst hab
        have hr : betweenI s a a = 0 := by simp [betweenI]
        rw [hr] at hNe
        subst hNe
        obtain ⟨ia0, ia1⟩ := inB_is ha
        have HZ := Lib.hid hv
        clear hr hv ha hb pa pb pp
        go_wp2
        go_ret2
        exact ⟨rfl, hbz2⟩
      · have hr : betweenI s a b = atI s (nodeI s a) (powI s a) (nodeI s b) := by simp [betweenI, hab]
        rw [hr] at hNe
        have hab' : (a == b) = false := by simpa using hab
        have na := node_at ha
        have nb := node_at hb
        have npa := pow_at hv ha
        obtain ⟨hlen0, hlen1, hlen2, hlen3⟩ := site_len hv
        have hl2 : (s.powers.length : Int) = (s.nodes.length : Int) := by omega
        obtain ⟨ia0, ia1⟩ := inB_is ha
        obtain ⟨ib0, ib1⟩ := inB_is hb
        have ia2 : a < (s.powers.length : Int) := by omega
        obtain ⟨Bn, on, hAe, d0, d1⟩ := hr0.pt hbzq na
        subst hAe
        obtain ⟨_, _, hAe, f0, f1⟩ := hr0.pt hbzq nb
        cases hAe
        obtain ⟨Bp, op, hAe, g0⟩ := hr1.int hbzq npa
        subst hAe
        have D0 := Later.cell d0
        have D1 := Later.cell d1
        have F0 := Later.cell f0
        have F1 := Later.cell f1
        have G0 := Later.cell g0
        clear na nb npa hlen2 hl2
        generalize nodeI s a = P at *
        generalize nodeI s b = P2 at *
        generalize powI s a = pw at *
        have HP1 := Lib.hid pa
        have HP2 := Lib.hid pb
        have HP3 := Lib.hid pp
        have HVv := Lib.hid hv
        have HNe := Lib.hid hNe
        have HR' := Lib.hid hr
        clear hNe
        clear pa pb pp hv hab ha hb hr
        obtain ⟨l0, l1, l2, l3, l4, l5⟩ := q _ hbA2; have Ll0 := Later.cell l0; have Ll1 := Later.cell l1; have Ll2 := Later.cell l2; have Ll3 := Later.cell l3; have Ll4 := Later.cell l4; have Ll5 := Later.cell l5
        go_wp2_with fail
        have hsL : ∀ z : Later w2, SiteV z.W _ s := fun z => hs'.out.mono (b_then hbz2 z.below)
        refine wp_region_later (by kernel_rfl) (by kernel_rfl) ?_
        repeat (go_big_quiet_step ((go_at_call 72; exact later_of (r05At0 s _ P pw P2 _ (hsL _) HVv.out HP1.out HP2.out HP3.out))))
        refine wpQuiet_nil ?_
        rintro _ ⟨z, rfl⟩
        go_wp2
        go_ret2
        exact ⟨ret_two (by rw [HNe.out]; rfl) rfl, b_then hbz2 z.below⟩
    · have hRe : R = 7 := by rw [← HR.out]; simp only [btwE, z, z1]; rfl
      subst hRe
      have hNe : N = 0 := by rw [← HN.out]; simp only [btwN, z, z1]; rfl
      subst hNe
      have hn : ¬ ((0 ≤ a ∧ a < s.nodes.length) ∧ (0 ≤ b ∧ b < s.nodes.length)) := by
        intro h
        have : (inB s a && inB s b) = true := by simpa [inB] using h
        rw [this] at z1
        cases z1
      have HNn := Lib.hid hn
      have HZ := Lib.hid z
      clear hn z1 z
      go_wp2_with fail
      all_goals first
        | (go_ret2; exact ⟨rfl, hbz2⟩)
        | (exfalso; have := HNn.out; omega)
  · rw [z, okN_false]
    have hRe : R = 1 := by rw [← HR.out]; simp only [btwE, z]; rfl
    subst hRe
    have hNe : N = 0 := by rw [← HN.out]; simp only [btwN, z]; rfl
    subst hNe
    go_wp2
    go_ret2
    exact ⟨rfl, hbz2⟩
end Go.Proofs.YtpbhoeaadnemhaaGreat
namespace Go.Proofs.YtpbhoeaadnemhaaGreat
open Go.RowKit
attribute [local go_sem high] max2_mx min2_mn max_two min_two
set_option linter.unusedVariables false
set_option linter.unusedSimpArgs false
set_option maxHeartbeats 4000000
set_option maxRecDepth 100000
theorem r06factor (x : Spm) (xv : Value) (a b c t : Int) (w : World) (hx : SpmV w xv x) : Calls Tryz.prog 55 #[xv, .int .i64 a, .int .i64 b, .int .i64 c, .int .i64 t] w fun e w' => e = .returned (.int .i64 (factorI x a b c t)) ∧ Below w.heap.size w w' := by
  have hu := Tryz.underlying30
  have hu2 := Tryz.underlying95
  have hx' := Lib.hid hx
  obtain ⟨x0, x1, rfl, h3, h4⟩ := hx
  have H3 := Lib.hid h3
  have H4 := Lib.hid h4
  obtain ⟨A3, c3, rfl, hc3, hm3, hr3⟩ := h3
  obtain ⟨A4, c4, rfl, hc4, hm4, hr4⟩ := h4
  unfold big at hm3 hm4
  obtain ⟨W1, hW1⟩ : ∃ W : World, W = (w.alloc (.cells #[.slice A3 x.srcs.length c3, .slice A4 x.fds.length c4] 30)) := ⟨_, rfl⟩; have hb1 : Below w.heap.size w W1 := (by rw [hW1]; (repeat (first | exact Below.refl _ _ | assumption | apply b_alloc | apply b_drewN | apply b_drew))); have q : ∀ wq : World, Below W1.heap.size W1 wq → wq.cell? ⟨w.heap.size, 0, none⟩ = some (.slice A3 x.srcs.length c3) ∧ wq.cell? ⟨w.heap.size, 1, none⟩ = some (.slice A4 x.fds.length c4) := (fun wq hwr => ⟨cell_mono hwr (by rw [hW1]; go_simp), cell_mono hwr (by rw [hW1]; go_simp)⟩); have HW := Lib.hid hW1; clear hW1
  go_enter Tryz.func55, Tryz.ntmps55
  go_wp2_with fail
  rw [← HW.out]
  go_loopw [11, 12] (fun o i wr => ∃ k : Nat, k ≤ x.fds.length ∧ i = .int .i64 k ∧ o = .int .i64 (leastI (fun f => appB f a b c t) (x.fds.take k)) ∧ Below W1.heap.size W1 wr) (fun _ i _ => x.fds.length - (intOf i).toNat)
  case atStart => exact ⟨0, Nat.zero_le _, rfl, rfl, Below.refl _ _⟩
  case round =>
    obtain ⟨k, hk, rfl, rfl, hbw⟩ := hrel
    obtain ⟨l0, l1⟩ := q _ hbw
    by_cases hlt : k < x.fds.length
    · obtain ⟨f, hf⟩ : ∃ f, x.fds[k]? = some f := ⟨_, List.getElem?_eq_getElem hlt⟩
      obtain ⟨b0, off, hAe, e0, e1, e2, e3, e4, e5⟩ := hr4.fd (b_then hb1 hbw) hf
      subst hAe
      have hsn := least_snoc (fun f => appB f a b c t) hf
      generalize hpg : leastI (fun f => appB f a b c t) (x.fds.take k) = pk at hsn ⊢
      have Hsn := Lib.hid hsn
      clear hf hsn hpg
      obtain ⟨frm, to, ch, first, til, fac⟩ := f
      dsimp only at *
      have hap : appB ⟨frm, to, ch, first, til, fac⟩ a b c t = ((decide (frm = -1) || decide (frm = a)) && (decide (to = -1) || decide (to = b)) && (decide (ch = -1) || decide (ch = c)) && decide (first ≤ t) && decide (t < til)) := rfl
      generalize hA : appB ⟨frm, to, ch, first, til, fac⟩ a b c t = A at hap Hsn
      have Hap := Lib.hid hap
      clear hA hap
      go_wp2_with fail
      all_goals
        (go_roundw
         case rel => exact ⟨k + 1, by omega, by go_num, by rw [Hsn.out, Hap.out]; simp [*] <;> (try (intros; omega)), b_alloc hbw _⟩
         case measure => simp [intOf]; omega)
    · go_wp2
      go_ret
      exact ⟨ret_int (by rw [List.take_of_length_le (by omega)]; rfl), b_then hb1 hbw⟩
end Go.Proofs.YtpbhoeaadnemhaaGreat
namespace Go.Proofs.YtpbhoeaadnemhaaGreat
open Go.RowKit
attribute [local go_sem high] max2_mx min2_mn max_two min_two
set_option linter.unusedVariables false
set_option linter.unusedSimpArgs false
set_option maxHeartbeats 4000000
set_option maxRecDepth 100000
theorem sPair (s : Site) (x : Spm) (v xv : Value) (a b : Int) (w : World) (hs : SiteV w v s) (hx : SpmV w xv x) :
    Calls Tryz.prog 65 #[v, xv, .int .i64 a, .int .i64 b] w fun e w' => e = .returned (.tuple #[.int .i64 (pairN s x a b), .int .i64 (nodesE s x a b)]) ∧ Below w.heap.size w w' := by
  have hu := Tryz.underlying26
  have hu2 := Tryz.underlying30
  have hs' := Lib.hid hs
  obtain ⟨v0, v1, v2, rfl, h0, h1, h2⟩ := hs
  obtain ⟨A0, c0, rfl, hc0, hm0, hr0⟩ := h0
  obtain ⟨A1, c1, rfl, hc1, hm1, hr1⟩ := h1
  obtain ⟨A2, c2, rfl, hc2, hm2, hr2⟩ := h2
  unfold big at hm0 hm1 hm2
  have hx' := Lib.hid hx
  obtain ⟨x0, x1, rfl, h3, h4⟩ := hx
  have H3 := Lib.hid h3
  have H4 := Lib.hid h4
  obtain ⟨A3, c3, rfl, hc3, hm3, hr3⟩ := h3
  obtain ⟨A4, c4, rfl, hc4, hm4, hr4⟩ := h4
  unfold big at hm3 hm4
  obtain ⟨R, hR⟩ : ∃ R, nodesE s x a b = R := ⟨_, rfl⟩
  obtain ⟨N, hN⟩ : ∃ N, pairN s x a b = N := ⟨_, rfl⟩
  rw [hR, hN]
  have HR := Lib.hid hR
  have HN := Lib.hid hN
  clear hR hN
  obtain ⟨W1, hW1⟩ : ∃ W : World, W = ((w.alloc (.cells #[.slice A0 s.nodes.length c0, .slice A1 s.powers.length c1, .slice A2 s.walls.length c2, .int .i64 s.ex, .int .i64 s.noise, .int .i64 s.thr] 26)).alloc (.cells #[.slice A3 x.srcs.length c3, .slice A4 x.fds.length c4] 30)) := ⟨_, rfl⟩; have hb1 : Below w.heap.size w W1 := (by rw [hW1]; (repeat (first | exact Below.refl _ _ | assumption | apply b_alloc | apply b_drewN | apply b_drew))); have q : ∀ wq : World, Below W1.heap.size W1 wq → wq.cell? ⟨w.heap.size, 0, none⟩ = some (.slice A0 s.nodes.length c0) ∧ wq.cell? ⟨w.heap.size, 1, none⟩ = some (.slice A1 s.powers.length c1) ∧ wq.cell? ⟨w.heap.size, 2, none⟩ = some (.slice A2 s.walls.length c2) ∧ wq.cell? ⟨w.heap.size, 3, none⟩ = some (.int .i64 s.ex) ∧ wq.cell? ⟨w.heap.size, 4, none⟩ = some (.int .i64 s.noise) ∧ wq.cell? ⟨w.heap.size, 5, none⟩ = some (.int .i64 s.thr) ∧ wq.cell? ⟨w.heap.size + 1, 0, none⟩ = some (.slice A3 x.srcs.length c3) ∧ wq.cell? ⟨w.heap.size + 1, 1, none⟩ = some (.slice A4 x.fds.length c4) := (fun wq hwr => ⟨cell_mono hwr (by rw [hW1]; go_simp), cell_mono hwr (by rw [hW1]; go_simp), cell_mono hwr (by rw [hW1]; go_simp), cell_mono hwr (by rw [hW1]; go_simp), cell_mono hwr (by rw [hW1]; go_simp), cell_mono hwr (by rw [hW1]; go_simp), cell_mono hwr (by rw [hW1]; go_simp), cell_mono hwr (by rw [hW1]; go_simp)⟩); have HW := Lib.hid hW1; clear hW1
  go_enter Tryz.func65, Tryz.ntmps65
  go_wp2_with fail
  rw [← HW.out]
  have hbA1 : Below W1.heap.size W1 W1 := Below.refl _ _
  refine (gCheck s _ _ (hs'.out.mono hb1)).mono ?_
  rintro e w2 ⟨rfl, hbA2⟩
  have hbz2 := b_then hb1 hbA2
  obtain ⟨l20, l21, l22, l23, l24, l25, l26, l27⟩ := q _ hbA2
  rcases Bool.eq_false_or_eq_true (siteB s) with z | z
  · rw [z, okN_true]
    have Q := Lib.hid z
    clear z
    go_wp2_with fail
    refine (sCheck x _ _ (hx'.out.mono hbz2)).mono ?_
    rintro e w3 ⟨rfl, hb3⟩
    have hbA3 := b_then hbA2 hb3
    have hbz3 := b_then hb1 hbA3
    try clear l20 l21 l22 l23 l24 l25 l26 l27
    obtain ⟨l30, l31, l32, l33, l34, l35, l36, l37⟩ := q _ hbA3
    rcases Bool.eq_false_or_eq_true (spmB x) with z | z
    · rw [z, okN_true]
      have Q1 := Lib.hid z
      clear z
      have hRe : R = btwE s a b := by rw [← HR.out]; simp only [nodesE, btwE, Q.out, Q1.out, Bool.and_true, if_true]
      have hNe : N = btwN s a b := by
        rw [← HN.out, pairN, HR.out, hRe]
        unfold btwE btwN
        rw [Q.out]
        rcases Bool.eq_false_or_eq_true (inB s a && inB s b) with y | y <;> rw [y] <;> rfl
      subst hRe
      subst hNe
      go_wp2_with fail
      refine (gBetween s _ a b _ (hs'.out.mono hbz3)).mono ?_
      rintro e w4 ⟨rfl, hb4⟩
      have hbA4 := b_then hbA3 hb4
      have hbz4 := b_then hb1 hbA4
      try clear l30 l31 l32 l33 l34 l35 l36 l37
      obtain ⟨l40, l41, l42, l43, l44, l45, l46, l47⟩ := q _ hbA4
      go_wp2
      go_ret2
      exact ⟨rfl, hbz4⟩
    · rw [z, okN_false]
      have hRe : R = 1 := by rw [← HR.out]; simp only [nodesE, Q.out, z]; rfl
      subst hRe
      have hNe : N = 0 := by rw [← HN.out, pairN, HR.out]; rfl
      subst hNe
      go_wp2
      go_ret2
      exact ⟨rfl, hbz3⟩
  · rw [z, okN_false]
    have hRe : R = 1 := by rw [← HR.out]; simp only [nodesE, z]; rfl
    subst hRe
    have hNe : N = 0 := by rw [← HN.out, pairN, HR.out]; rfl
    subst hNe
    go_wp2
    go_ret2
    exact ⟨rfl, hbz2⟩
theorem sSignal (s : Site) (x : Spm) (v xv : Value) (a b c t : Int) (w : World) (hs : SiteV w v s) (hx : SpmV w xv x) :
    Calls Tryz.prog 46 #[v, xv, .int .i64 a, .int .i64 b, .int .i64 c, .int .i64 t] w fun e w' => e = .returned (.tuple #[.int .i64 (sigN s x a b c t), .int .i64 (sigE s x a b c t)]) ∧ Below w.heap.size w w' := by
  have hu := Tryz.underlying26
  have hu2 := Tryz.underlying30
  have hs' := Lib.hid hs
  obtain ⟨v0, v1, v2, rfl, h0, h1, h2⟩ := hs
  obtain ⟨A0, c0, rfl, hc0, hm0, hr0⟩ := h0
  obtain ⟨A1, c1, rfl, hc1, hm1, hr1⟩ := h1
  obtain ⟨A2, c2, rfl, hc2, hm2, hr2⟩ := h2
  unfold big at hm0 hm1 hm2
  have hx' := Lib.hid hx
  obtain ⟨x0, x1, rfl, h3, h4⟩ := hx
  have H3 := Lib.hid h3
  have H4 := Lib.hid h4
  obtain ⟨A3, c3, rfl, hc3, hm3, hr3⟩ := h3
  obtain ⟨A4, c4, rfl, hc4, hm4, hr4⟩ := h4
  unfold big at hm3 hm4
  obtain ⟨R, hR⟩ : ∃ R, sigE s x a b c t = R := ⟨_, rfl⟩
  obtain ⟨N, hN⟩ : ∃ N, sigN s x a b c t = N := ⟨_, rfl⟩
  rw [hR, hN]
  have HR := Lib.hid hR
  have HN := Lib.hid hN
  clear hR hN
  obtain ⟨W1, hW1⟩ : ∃ W : World, W = ((w.alloc (.cells #[.slice A0 s.nodes.length c0, .slice A1 s.powers.length c1, .slice A2 s.walls.length c2, .int .i64 s.ex, .int .i64 s.noise, .int .i64 s.thr] 26)).alloc (.cells #[.slice A3 x.srcs.length c3, .slice A4 x.fds.length c4] 30)) := ⟨_, rfl⟩; have hb1 : Below w.heap.size w W1 := (by rw [hW1]; (repeat (first | exact Below.refl _ _ | assumption | apply b_alloc | apply b_drewN | apply b_drew))); have q : ∀ wq : World, Below W1.heap.size W1 wq → wq.cell? ⟨w.heap.size, 0, none⟩ = some (.slice A0 s.nodes.length c0) ∧ wq.cell? ⟨w.heap.size, 1, none⟩ = some (.slice A1 s.powers.length c1) ∧ wq.cell? ⟨w.heap.size, 2, none⟩ = some (.slice A2 s.walls.length c2) ∧ wq.cell? ⟨w.heap.size, 3, none⟩ = some (.int .i64 s.ex) ∧ wq.cell? ⟨w.heap.size, 4, none⟩ = some (.int .i64 s.noise) ∧ wq.cell? ⟨w.heap.size, 5, none⟩ = some (.int .i64 s.thr) ∧ wq.cell? ⟨w.heap.size + 1, 0, none⟩ = some (.slice A3 x.srcs.length c3) ∧ wq.cell? ⟨w.heap.size + 1, 1, none⟩ = some (.slice A4 x.fds.length c4) := (fun wq hwr => ⟨cell_mono hwr (by rw [hW1]; go_simp), cell_mono hwr (by rw [hW1]; go_simp), cell_mono hwr (by rw [hW1]; go_simp), cell_mono hwr (by rw [hW1]; go_simp), cell_mono hwr (by rw [hW1]; go_simp), cell_mono hwr (by rw [hW1]; go_simp), cell_mono hwr (by rw [hW1]; go_simp), cell_mono hwr (by rw [hW1]; go_simp)⟩); have HW := Lib.hid hW1; clear hW1
  go_enter Tryz.func46, Tryz.ntmps46
  go_wp2_with fail
  rw [← HW.out]
  have hbA1 : Below W1.heap.size W1 W1 := Below.refl _ _
  refine (sPair s x _ _ a b _ (hs'.out.mono hb1) (hx'.out.mono hb1)).mono ?_
  rintro e w2 ⟨rfl, hbA2⟩
  have hbz2 := b_then hb1 hbA2
  obtain ⟨l20, l21, l22, l23, l24, l25, l26, l27⟩ := q _ hbA2
  by_cases z : nodesE s x a b = 0
  · have hpN : pairN s x a b = betweenI s a b := by simp [pairN, z]
    rw [z, hpN]
    have Q := Lib.hid z
    obtain ⟨hv, hxv, ha, hb⟩ := nodes_zero z
    obtain ⟨p0, p1⟩ := pow_is (between_pow (b := b) hv ha)
    obtain ⟨f0, f1⟩ := factor_bd hxv a b c t
    have hsc : scaleB (betweenI s a b) (factorI x a b c t) = true := by simp [scaleB, powB]; omega
    have Hsc := Lib.hid hsc
    clear z hpN hv hxv ha hb hsc
    go_wp2_with fail
    refine (sChannel c _).mono ?_
    rintro e wf ⟨rfl, rfl⟩
    rcases Bool.eq_false_or_eq_true (chB c) with z1 | z1
    · rw [z1]
      have Q1 := Lib.hid z1
      clear z1
      by_cases G : 0 ≤ t ∧ t ≤ 1099511627776
      · obtain ⟨t0, t1⟩ := G
        have hRe : R = 0 := by rw [← HR.out]; simp only [sigE, Q.out, Q1.out]; simp [tmB, t0, t1]
        subst hRe
        have hNe : N = scaleN (betweenI s a b) (factorI x a b c t) := by rw [← HN.out, sigN, HR.out, scaleN, Hsc.out]; rfl
        have hsE : scaleE (betweenI s a b) (factorI x a b c t) = 0 := by rw [scaleE, Hsc.out]; rfl
        have HSE := Lib.hid hsE
        subst hNe
        clear hsE p0 p1 f0 f1
        go_wp2_with fail
        refine (sFactor0 x _ a b c t _ (hx'.out.mono hbz2)).mono ?_
        rintro e w3 ⟨rfl, hb3⟩
        have hbA3 := b_then hbA2 hb3
        have hbz3 := b_then hb1 hbA3
        try clear l20 l21 l22 l23 l24 l25 l26 l27
        obtain ⟨l30, l31, l32, l33, l34, l35, l36, l37⟩ := q _ hbA3
        go_wp2_with fail
        refine (pScale _ _ _).mono ?_
        rintro e wf ⟨rfl, rfl⟩
        rw [HSE.out]
        go_wp2
        go_ret2
        exact ⟨rfl, hbz3⟩
      · have hRe : R = 2 := by
          rw [← HR.out]; simp only [sigE, Q.out, Q1.out]
          have : tmB t = false := by rw [Bool.eq_false_iff]; intro h; apply G; simpa [tmB] using h
          rw [this]; rfl
        subst hRe
        have hNe : N = 0 := by rw [← HN.out, sigN, HR.out]; rfl
        subst hNe
        have HG := Lib.hid G
        clear G
        go_wp2_with fail
        all_goals first
          | (go_ret2; exact ⟨rfl, hbz2⟩)
          | (exfalso; have := HG.out; omega)
    · rw [z1]
      have hRe : R = 2 := by rw [← HR.out]; simp only [sigE, Q.out, z1]; rfl
      subst hRe
      have hNe : N = 0 := by rw [← HN.out, sigN, HR.out]; rfl
      subst hNe
      go_wp2
      go_ret2
      exact ⟨rfl, hbz2⟩
  · have hpN : pairN s x a b = 0 := by simp [pairN, z]
    have hRe : R = nodesE s x a b := by rw [← HR.out, sigE, if_neg z]
    have hNe : N = 0 := by rw [← HN.out, sigN, HR.out, hRe, if_neg z]
    subst hNe
    rw [hpN, ← hRe]
    rw [← hRe] at z
    have g : (R != 0) = true := by simpa using z
    have g2 : (R == 0) = false := by simpa using z
    clear hpN z hRe
    go_wp2
    go_ret2
    exact ⟨rfl, hbz2⟩
end Go.Proofs.YtpbhoeaadnemhaaGreat
namespace Go.Proofs.YtpbhoeaadnemhaaGreat
open Go.RowKit
attribute [local go_sem high] max2_mx min2_mn max_two min_two
set_option linter.unusedVariables false
set_option linter.unusedSimpArgs false
set_option maxHeartbeats 4000000
set_option maxRecDepth 100000
theorem r06Signal (s : Site) (x : Spm) (v xv : Value) (a b c t : Int) (w : World) (hs : SiteV w v s) (hx : SpmV w xv x) :
    Calls Tryz.prog 33 #[v, xv, .int .i64 a, .int .i64 b, .int .i64 c, .int .i64 t] w fun e w' => e = .returned (.tuple #[.int .i64 (sigN s x a b c t), .int .i64 (sigE s x a b c t)]) ∧ Below w.heap.size w w' := by
  have hu := Tryz.underlying26
  have hu2 := Tryz.underlying30
  have hs' := Lib.hid hs
  obtain ⟨v0, v1, v2, rfl, h0, h1, h2⟩ := hs
  obtain ⟨A0, c0, rfl, hc0, hm0, hr0⟩ := h0
  obtain ⟨A1, c1, rfl, hc1, hm1, hr1⟩ := h1
  obtain ⟨A2, c2, rfl, hc2, hm2, hr2⟩ := h2
  unfold big at hm0 hm1 hm2
  have hx' := Lib.hid hx
  obtain ⟨x0, x1, rfl, h3, h4⟩ := hx
  have H3 := Lib.hid h3
  have H4 := Lib.hid h4
  obtain ⟨A3, c3, rfl, hc3, hm3, hr3⟩ := h3
  obtain ⟨A4, c4, rfl, hc4, hm4, hr4⟩ := h4
  unfold big at hm3 hm4
  obtain ⟨R, hR⟩ : ∃ R, sigE s x a b c t = R := ⟨_, rfl⟩
  obtain ⟨N, hN⟩ : ∃ N, sigN s x a b c t = N := ⟨_, rfl⟩
  rw [hR, hN]
  have HR := Lib.hid hR
  have HN := Lib.hid hN
  clear hR hN
  obtain ⟨W1, hW1⟩ : ∃ W : World, W = ((w.alloc (.cells #[.slice A0 s.nodes.length c0, .slice A1 s.powers.length c1, .slice A2 s.walls.length c2, .int .i64 s.ex, .int .i64 s.noise, .int .i64 s.thr] 26)).alloc (.cells #[.slice A3 x.srcs.length c3, .slice A4 x.fds.length c4] 30)) := ⟨_, rfl⟩; have hb1 : Below w.heap.size w W1 := (by rw [hW1]; (repeat (first | exact Below.refl _ _ | assumption | apply b_alloc | apply b_drewN | apply b_drew))); have q : ∀ wq : World, Below W1.heap.size W1 wq → wq.cell? ⟨w.heap.size, 0, none⟩ = some (.slice A0 s.nodes.length c0) ∧ wq.cell? ⟨w.heap.size, 1, none⟩ = some (.slice A1 s.powers.length c1) ∧ wq.cell? ⟨w.heap.size, 2, none⟩ = some (.slice A2 s.walls.length c2) ∧ wq.cell? ⟨w.heap.size, 3, none⟩ = some (.int .i64 s.ex) ∧ wq.cell? ⟨w.heap.size, 4, none⟩ = some (.int .i64 s.noise) ∧ wq.cell? ⟨w.heap.size, 5, none⟩ = some (.int .i64 s.thr) ∧ wq.cell? ⟨w.heap.size + 1, 0, none⟩ = some (.slice A3 x.srcs.length c3) ∧ wq.cell? ⟨w.heap.size + 1, 1, none⟩ = some (.slice A4 x.fds.length c4) := (fun wq hwr => ⟨cell_mono hwr (by rw [hW1]; go_simp), cell_mono hwr (by rw [hW1]; go_simp), cell_mono hwr (by rw [hW1]; go_simp), cell_mono hwr (by rw [hW1]; go_simp), cell_mono hwr (by rw [hW1]; go_simp), cell_mono hwr (by rw [hW1]; go_simp), cell_mono hwr (by rw [hW1]; go_simp), cell_mono hwr (by rw [hW1]; go_simp)⟩); have HW := Lib.hid hW1; clear hW1
  go_enter Tryz.func33, Tryz.ntmps33
  go_wp2_with fail
  rw [← HW.out]
  have hbA1 : Below W1.heap.size W1 W1 := Below.refl _ _
  refine (r06nodes s x _ _ a b _ (hs'.out.mono hb1) (hx'.out.mono hb1)).mono ?_
  rintro e w2 ⟨rfl, hbA2⟩
  have hbz2 := b_then hb1 hbA2
  obtain ⟨l20, l21, l22, l23, l24, l25, l26, l27⟩ := q _ hbA2
  by_cases z : nodesE s x a b = 0
  · rw [z]
    have Q := Lib.hid z
    obtain ⟨hv, hxv, ha, hb⟩ := nodes_zero z
    have hbN : btwN s a b = betweenI s a b := by simp [btwN, hv, ha, hb]
    obtain ⟨f0, f1⟩ := factor_bd hxv a b c t
    obtain ⟨p0, p1⟩ := pow_is (between_pow (b := b) hv ha)
    have hm0 : 0 ≤ betweenI s a b * factorI x a b c t := Int.mul_nonneg p0 f0
    have hm1 : betweenI s a b * factorI x a b c t ≤ 68719476736 * 1000 := Int.mul_le_mul p1 f1 f0 (by omega)
    have hw : wrap64 (betweenI s a b * factorI x a b c t) = betweenI s a b * factorI x a b c t := w64 (by omega) (by omega)
    have HBN := Lib.hid hbN
    have HWW := Lib.hid hw
    clear z hbN hv hxv ha hb hw
    go_wp2_with fail
    refine (r06Channel c _).mono ?_
    rintro e wf ⟨rfl, rfl⟩
    rcases Bool.eq_false_or_eq_true (chB c) with z1 | z1
    · rw [z1]
      have Q1 := Lib.hid z1
      clear z1
      go_wp2_with fail
      refine (r06time t _).mono ?_
      rintro e wf ⟨rfl, rfl⟩
      rcases Bool.eq_false_or_eq_true (tmB t) with z2 | z2
      · rw [z2]
        have hRe : R = 0 := by rw [← HR.out]; simp only [sigE, Q.out, Q1.out, z2]; rfl
        subst hRe
        have hNe : N = betweenI s a b * factorI x a b c t / 1000 := by rw [← HN.out, sigN, HR.out]; rfl
        subst hNe
        clear z2
        go_wp2_with fail
        refine (r05Between s _ a b _ (hs'.out.mono hbz2)).mono ?_
        rintro e w3 ⟨rfl, hb3⟩
        have hbA3 := b_then hbA2 hb3
        have hbz3 := b_then hb1 hbA3
        try clear l20 l21 l22 l23 l24 l25 l26 l27
        obtain ⟨l30, l31, l32, l33, l34, l35, l36, l37⟩ := q _ hbA3
        rw [HBN.out]
        generalize btwE s a b = E2
        go_wp2_with fail
        refine (r06factor x _ a b c t _ (hx'.out.mono hbz3)).mono ?_
        rintro e w4 ⟨rfl, hb4⟩
        have hbA4 := b_then hbA3 hb4
        have hbz4 := b_then hb1 hbA4
        try clear l30 l31 l32 l33 l34 l35 l36 l37
        obtain ⟨l40, l41, l42, l43, l44, l45, l46, l47⟩ := q _ hbA4
        have hw := HWW.out
        go_wp2
        go_ret2
        exact ⟨rfl, hbz4⟩
      · rw [z2]
        have hRe : R = 2 := by rw [← HR.out]; simp only [sigE, Q.out, Q1.out, z2]; rfl
        subst hRe
        have hNe : N = 0 := by rw [← HN.out, sigN, HR.out]; rfl
        subst hNe
        go_wp2
        go_ret2
        exact ⟨rfl, hbz2⟩
    · rw [z1]
      have hRe : R = 2 := by rw [← HR.out]; simp only [sigE, Q.out, z1]; rfl
      subst hRe
      have hNe : N = 0 := by rw [← HN.out, sigN, HR.out]; rfl
      subst hNe
      go_wp2
      go_ret2
      exact ⟨rfl, hbz2⟩
  · have hRe : R = nodesE s x a b := by rw [← HR.out, sigE, if_neg z]
    have hNe : N = 0 := by rw [← HN.out, sigN, HR.out, hRe, if_neg z]
    subst hNe
    rw [← hRe]
    rw [← hRe] at z
    have g : (R != 0) = true := by simpa using z
    have g2 : (R == 0) = false := by simpa using z
    clear z hRe
    go_wp2
    go_ret2
    exact ⟨rfl, hbz2⟩
end Go.Proofs.YtpbhoeaadnemhaaGreat
