/- The reference: its checks, what counts, whether a node is busy, the decision, the interference. -/
import Derived.Test.YtpbhoeaadnemhaaGreatMF
import Derived.Test.YtpbhoeaadnemhaaGreatMJ
import Derived.Test.YtpbhoeaadnemhaaGreatMA
namespace Go.Proofs.YtpbhoeaadnemhaaGreat
open Go.RowKit Go.Shelf
set_option linter.unusedVariables false
set_option linter.unusedSimpArgs false
set_option maxHeartbeats 4000000
set_option maxRecDepth 100000
theorem r07check (s : Site) (x : Spm) (l : List Em) (i node : Int) (v xv lv : Value) (w : World) (hs : SiteV w v s) (hx : SpmV w xv x) (hl : SlV 4 KEm w lv l) :
    Calls Tryz.prog 31 #[v, xv, lv, .int .i64 i, .int .i64 node] w fun e w' => e = .returned (.int .i64 (chkE s x l i node)) ∧ Below w.heap.size w w' := by
  have hu := Tryz.underlying26
  have hu2 := Tryz.underlying30
  have hs' := Lib.hid hs
  obtain ⟨v0, v1, v2, rfl, h0, h1, h2⟩ := hs
  obtain ⟨A0, c0, rfl, hc0, hm0, hr0⟩ := h0
  obtain ⟨A1, c1, rfl, hc1, hm1, hr1⟩ := h1
  obtain ⟨A2, c2, rfl, hc2, hm2, hr2⟩ := h2
  unfold big at hm0 hm1 hm2
  have hx' := Lib.hid hx
  obtain ⟨x0, x1, rfl, h3, h4⟩ := hx
  have H3 := Lib.hid h3
  have H4 := Lib.hid h4
  obtain ⟨A3, c3, rfl, hc3, hm3, hr3⟩ := h3
  obtain ⟨A4, c4, rfl, hc4, hm4, hr4⟩ := h4
  unfold big at hm3 hm4
  have hl' := Lib.hid hl
  obtain ⟨A5, c5, rfl, hc5, hm5, hr5⟩ := hl
  unfold big at hm5
  obtain ⟨R, hR⟩ : ∃ R, chkE s x l i node = R := ⟨_, rfl⟩
  rw [hR]
  have HR := Lib.hid hR
  clear hR
  obtain ⟨W1, hW1⟩ : ∃ W : World, W = ((w.alloc (.cells #[.slice A0 s.nodes.length c0, .slice A1 s.powers.length c1, .slice A2 s.walls.length c2, .int .i64 s.ex, .int .i64 s.noise, .int .i64 s.thr] 26)).alloc (.cells #[.slice A3 x.srcs.length c3, .slice A4 x.fds.length c4] 30)) := ⟨_, rfl⟩; have hb1 : Below w.heap.size w W1 := (by rw [hW1]; (repeat (first | exact Below.refl _ _ | assumption | apply b_alloc | apply b_drewN | apply b_drew))); have q : ∀ wq : World, Below W1.heap.size W1 wq → wq.cell? ⟨w.heap.size, 0, none⟩ = some (.slice A0 s.nodes.length c0) ∧ wq.cell? ⟨w.heap.size, 1, none⟩ = some (.slice A1 s.powers.length c1) ∧ wq.cell? ⟨w.heap.size, 2, none⟩ = some (.slice A2 s.walls.length c2) ∧ wq.cell? ⟨w.heap.size, 3, none⟩ = some (.int .i64 s.ex) ∧ wq.cell? ⟨w.heap.size, 4, none⟩ = some (.int .i64 s.noise) ∧ wq.cell? ⟨w.heap.size, 5, none⟩ = some (.int .i64 s.thr) ∧ wq.cell? ⟨w.heap.size + 1, 0, none⟩ = some (.slice A3 x.srcs.length c3) ∧ wq.cell? ⟨w.heap.size + 1, 1, none⟩ = some (.slice A4 x.fds.length c4) := (fun wq hwr => ⟨cell_mono hwr (by rw [hW1]; go_simp), cell_mono hwr (by rw [hW1]; go_simp), cell_mono hwr (by rw [hW1]; go_simp), cell_mono hwr (by rw [hW1]; go_simp), cell_mono hwr (by rw [hW1]; go_simp), cell_mono hwr (by rw [hW1]; go_simp), cell_mono hwr (by rw [hW1]; go_simp), cell_mono hwr (by rw [hW1]; go_simp)⟩); have HW := Lib.hid hW1; clear hW1
  go_enter Tryz.func31, Tryz.ntmps31
  go_wp2_with fail
  rw [← HW.out]
  have hbA1 : Below W1.heap.size W1 W1 := Below.refl _ _
  refine (r07Check s x l _ _ _ _ (hs'.out.mono hb1) (hx'.out.mono hb1) (hl'.out.mono KEm.st hb1)).mono ?_
  rintro e w2 ⟨rfl, hbA2⟩
  have hbz2 := b_then hb1 hbA2
  obtain ⟨l20, l21, l22, l23, l24, l25, l26, l27⟩ := q _ hbA2
  by_cases z : airE s x l = 0
  rotate_left
  · have hRe : R = airE s x l := by rw [← HR.out, chkE, if_neg z]
    rw [← hRe] at z ⊢
    have g0 : (R == 0) = false := by simpa using z
    have g1 : (R != 0) = true := by simpa using z
    clear z hRe
    go_wp2
    go_ret
    exact ⟨rfl, hbz2⟩
  rw [z]
  by_cases hc : (0 ≤ i ∧ i < l.length) ∧ 0 ≤ node ∧ node < s.nodes.length
  · have hRe : R = 0 := by
      rw [← HR.out, chkE, if_pos z, if_pos]
      simp only [ixB, inB, Bool.and_eq_true, decide_eq_true_eq]
      exact hc
    subst hRe
    have n0 : decide (i < 0) = false := by simp; omega
    have n1 : decide ((l.length : Int) ≤ i) = false := by simp; omega
    have n2 : decide (node < 0) = false := by simp; omega
    have n3 : decide ((s.nodes.length : Int) ≤ node) = false := by simp; omega
    clear hc z
    go_wp2
    go_ret
    exact ⟨rfl, hbz2⟩
  · have hRe : R = 7 := by
      rw [← HR.out, chkE, if_pos z, if_neg]
      simp only [ixB, inB, Bool.and_eq_true, decide_eq_true_eq]
      exact hc
    subst hRe
    have HC := Lib.hid hc
    clear hc z
    go_wp2_with fail
    all_goals first
      | (go_ret; exact ⟨rfl, hbz2⟩)
      | (exfalso; have := HC.out; omega)
theorem r07counts (l : List Em) (i k : Nat) (node : Int) (lv : Value) (w : World) (hi : i < l.length) (hk : k < l.length) (hl : SlV 4 KEm w lv l) :
    Calls Tryz.prog 36 #[lv, .int .i64 i, .int .i64 k, .int .i64 node] w fun e w' => e = .returned (.bool (cntB (emD l i) i node k (emD l k))) ∧ Below w.heap.size w w' := by
  have hu3 := Tryz.underlying42
  obtain ⟨A5, c5, rfl, hc5, hm5, hr5⟩ := hl
  unfold big at hm5
  have hge := emD_get hi
  have hgk := emD_get hk
  generalize emD l i = a at *
  generalize emD l k = y at *
  obtain ⟨bl, off, rfl, a0, a1, a2, a3⟩ := hr5.em (Below.refl _ _) hge
  obtain ⟨_, _, hA, y0, y1, y2, y3⟩ := hr5.em (Below.refl _ _) hgk
  cases hA
  have E0 := Later.cell a0
  have E1 := Later.cell a1
  have E2 := Later.cell a2
  have E3 := Later.cell a3
  have Y0 := Later.cell y0
  have Y1 := Later.cell y1
  have Y2 := Later.cell y2
  have Y3 := Later.cell y3
  have k0 : (0 : Int) ≤ (k : Int) := by omega
  have k1 : (k : Int) < (l.length : Int) := by omega
  have i0 : (0 : Int) ≤ (i : Int) := by omega
  have i1 : (i : Int) < (l.length : Int) := by omega
  clear hge hgk
  obtain ⟨C, hC⟩ : ∃ C, cntB a i node k y = C := ⟨_, rfl⟩
  rw [hC]
  have HC := Lib.hid hC
  clear hC
  go_enter Tryz.func36, Tryz.ntmps36
  by_cases q1 : k = i
  · have g1 : ((k : Int) != (i : Int)) = false := by simp [q1]
    have g1' : (k != i) = false := by simp [q1]
    have hCe : C = false := by rw [← HC.out]; simp [cntB, q1]
    subst hCe
    clear q1
    go_wp2_with fail
    refine wp_region_later (by kernel_rfl) (by kernel_rfl) ?_
    repeat (go_big_quiet_step ((go_at_call 45; exact later_of (r07OverlapV _ _ _ (by with_reducible assumption)))))
    refine wpQuiet_nil ?_
    rintro _ ⟨z, rfl⟩
    go_wp2
    go_ret
    exact ⟨rfl, z.below⟩
  have g1 : ((k : Int) != (i : Int)) = true := by simp; omega
  have g1' : (k != i) = true := by simpa using q1
  by_cases q3 : y.node = node
  · have g3 : (y.node != node) = false := by simp [q3]
    have hCe : C = false := by rw [← HC.out]; simp [cntB, q3]
    subst hCe
    clear q1 q3
    go_wp2_with fail
    refine wp_region_later (by kernel_rfl) (by kernel_rfl) ?_
    repeat (go_big_quiet_step ((go_at_call 45; exact later_of (r07OverlapV _ _ _ (by with_reducible assumption)))))
    refine wpQuiet_nil ?_
    rintro _ ⟨z, rfl⟩
    go_wp2
    go_ret
    exact ⟨rfl, z.below⟩
  have g3 : (y.node != node) = true := by simpa using q3
  by_cases q2 : y.ch = a.ch
  rotate_left
  · have g2 : (y.ch == a.ch) = false := by simpa using q2
    have hCe : C = false := by rw [← HC.out]; simp [cntB, q2]
    subst hCe
    clear q1 q2 q3
    go_wp2_with fail
    refine wp_region_later (by kernel_rfl) (by kernel_rfl) ?_
    repeat (go_big_quiet_step ((go_at_call 45; exact later_of (r07OverlapV _ _ _ (by with_reducible assumption)))))
    refine wpQuiet_nil ?_
    rintro _ ⟨z, rfl⟩
    go_wp2
    go_ret
    exact ⟨rfl, z.below⟩
  have g2 : (y.ch == a.ch) = true := by simpa using q2
  have hCe : C = overB a y := by rw [← HC.out]; simp [cntB, q1, q2, q3]
  rw [over_comm] at hCe
  rcases Bool.eq_false_or_eq_true (overB y a) with q4 | q4
  all_goals
    rw [q4] at hCe
    subst hCe
    clear q1 q2 q3
    go_wp2_with fail
    refine wp_region_later (by kernel_rfl) (by kernel_rfl) ?_
    repeat (go_big_quiet_step ((go_at_call 45; exact later_of (r07OverlapV _ _ _ (by with_reducible assumption)))))
    refine wpQuiet_nil ?_
    rintro _ ⟨z, rfl⟩
    go_wp2
    go_ret
    exact ⟨rfl, z.below⟩
theorem r04Decide (s : Site) (hs : siteB s = true) (p n : Int) (p0 : 0 ≤ p) (p1 : p ≤ 68719476736) (n0 : 0 ≤ n) (n1 : n ≤ 4535485464576) (w : World) :
    Calls Tryz.prog 35 #[.int .i64 p, .int .i64 s.thr, .int .i64 s.noise, .int .i64 n] w fun e w' => e = .returned (.bool (hearB s p n)) ∧ Below w.heap.size w w' := by
  rw [hear_is hs n0]
  obtain ⟨w1, w2, w3⟩ := decide_w hs p0 p1 n0 n1
  go_enter Tryz.func35, Tryz.ntmps35
  go_wp2
  go_ret
  exact ⟨rfl, Below.refl _ _⟩
end Go.Proofs.YtpbhoeaadnemhaaGreat
