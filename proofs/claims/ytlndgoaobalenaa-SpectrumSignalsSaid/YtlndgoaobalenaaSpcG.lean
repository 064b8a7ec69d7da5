/- Walks: the reference's signal and its worst one. -/
import Derived.Test.YtlndgoaobalenaaSpcE
namespace Go.Proofs.Ytlndgoaobalenaa
open Go.RowKit
attribute [local go_sem high] max2_mx min2_mn max_two min_two
set_option linter.unusedVariables false
set_option linter.unusedSimpArgs false
set_option maxHeartbeats 4000000
set_option maxRecDepth 100000
theorem r06Signal (s : Site) (x : Spm) (v xv : Value) (a b c t : Int) (w : World) (hs : SiteV w v s) (hx : SpmV w xv x) :
    Calls Try.prog 29 #[v, xv, .int .i64 a, .int .i64 b, .int .i64 c, .int .i64 t] w fun e w' => e = .returned (.tuple #[.int .i64 (sigN s x a b c t), .int .i64 (sigE s x a b c t)]) ∧ Below w.heap.size w w' := by
  have hu := Try.underlying45
  have hu2 := Try.underlying25
  have hs' := Lib.hid hs
  obtain ⟨v0, v1, v2, rfl, h0, h1, h2⟩ := hs
  obtain ⟨A0, c0, rfl, hc0, hm0, hr0⟩ := h0
  obtain ⟨A1, c1, rfl, hc1, hm1, hr1⟩ := h1
  obtain ⟨A2, c2, rfl, hc2, hm2, hr2⟩ := h2
  unfold big at hm0 hm1 hm2
  have hx' := Lib.hid hx
  obtain ⟨x0, x1, rfl, h3, h4⟩ := hx
  have H3 := Lib.hid h3
  have H4 := Lib.hid h4
  obtain ⟨A3, c3, rfl, hc3, hm3, hr3⟩ := h3
  obtain ⟨A4, c4, rfl, hc4, hm4, hr4⟩ := h4
  unfold big at hm3 hm4
  obtain ⟨R, hR⟩ : ∃ R, sigE s x a b c t = R := ⟨_, rfl⟩
  obtain ⟨N, hN⟩ : ∃ N, sigN s x a b c t = N := ⟨_, rfl⟩
  rw [hR, hN]
  have HR := Lib.hid hR
  have HN := Lib.hid hN
  clear hR hN
  obtain ⟨W1, hW1⟩ : ∃ W : World, W = ((w.alloc (.cells #[.slice A0 s.nodes.length c0, .slice A1 s.powers.length c1, .slice A2 s.walls.length c2, .int .i64 s.ex, .int .i64 s.noise, .int .i64 s.thr] 45)).alloc (.cells #[.slice A3 x.srcs.length c3, .slice A4 x.fds.length c4] 25)) := ⟨_, rfl⟩
  have hb1 : Below w.heap.size w W1 := by rw [hW1]; (repeat (first | exact Below.refl _ _ | assumption | apply b_alloc | apply b_drewN | apply b_drew))
  have q : ∀ wr : World, Below W1.heap.size W1 wr → wr.cell? ⟨w.heap.size, 0, none⟩ = some (.slice A0 s.nodes.length c0) ∧ wr.cell? ⟨w.heap.size, 1, none⟩ = some (.slice A1 s.powers.length c1) ∧ wr.cell? ⟨w.heap.size, 2, none⟩ = some (.slice A2 s.walls.length c2) ∧ wr.cell? ⟨w.heap.size, 3, none⟩ = some (.int .i64 s.ex) ∧ wr.cell? ⟨w.heap.size, 4, none⟩ = some (.int .i64 s.noise) ∧ wr.cell? ⟨w.heap.size, 5, none⟩ = some (.int .i64 s.thr) ∧ wr.cell? ⟨w.heap.size + 1, 0, none⟩ = some (.slice A3 x.srcs.length c3) ∧ wr.cell? ⟨w.heap.size + 1, 1, none⟩ = some (.slice A4 x.fds.length c4) := fun wr hwr => ⟨cell_mono hwr (by rw [hW1]; go_simp), cell_mono hwr (by rw [hW1]; go_simp), cell_mono hwr (by rw [hW1]; go_simp), cell_mono hwr (by rw [hW1]; go_simp), cell_mono hwr (by rw [hW1]; go_simp), cell_mono hwr (by rw [hW1]; go_simp), cell_mono hwr (by rw [hW1]; go_simp), cell_mono hwr (by rw [hW1]; go_simp)⟩
  have HW := Lib.hid hW1
  clear hW1
  go_enter Try.func29, Try.ntmps29
  go_wp2_with fail
  rw [← HW.out]
  have hbA1 : Below W1.heap.size W1 W1 := Below.refl _ _
  refine (r06nodes s x _ _ a b _ (hs'.out.mono hb1) (hx'.out.mono hb1)).mono ?_
  rintro e w2 ⟨rfl, hbA2⟩
  have hbz2 := b_then hb1 hbA2
  obtain ⟨l20, l21, l22, l23, l24, l25, l26, l27⟩ := q _ hbA2
  by_cases z : nodesE s x a b = 0
  · rw [z]
    have Q := Lib.hid z
    obtain ⟨hv, hxv, ha, hb⟩ := nodes_zero z
    have hbN : btwN s a b = betweenI s a b := by simp [btwN, hv, ha, hb]
    obtain ⟨f0, f1⟩ := factor_bd hxv a b c t
    obtain ⟨p0, p1⟩ := pow_is (between_pow (b := b) hv ha)
    have hm0 : 0 ≤ betweenI s a b * factorI x a b c t := Int.mul_nonneg p0 f0
    have hm1 : betweenI s a b * factorI x a b c t ≤ 68719476736 * 1000 := Int.mul_le_mul p1 f1 f0 (by omega)
    have hw : wrap64 (betweenI s a b * factorI x a b c t) = betweenI s a b * factorI x a b c t := w64 (by omega) (by omega)
    have HBN := Lib.hid hbN
    have HWW := Lib.hid hw
    clear z hbN hv hxv ha hb hw
    go_wp2_with fail
    refine (r06Channel c _).mono ?_
    rintro e wf ⟨rfl, rfl⟩
    rcases Bool.eq_false_or_eq_true (chB c) with z1 | z1
    · rw [z1]
      have Q1 := Lib.hid z1
      clear z1
      go_wp2_with fail
      refine (r06time t _).mono ?_
      rintro e wf ⟨rfl, rfl⟩
      rcases Bool.eq_false_or_eq_true (tmB t) with z2 | z2
      · rw [z2]
        have hRe : R = 0 := by rw [← HR.out]; simp only [sigE, Q.out, Q1.out, z2]; rfl
        subst hRe
        have hNe : N = betweenI s a b * factorI x a b c t / 1000 := by rw [← HN.out, sigN, HR.out]; rfl
        subst hNe
        clear z2
        go_wp2_with fail
        refine (r05Between s _ a b _ (hs'.out.mono hbz2)).mono ?_
        rintro e w3 ⟨rfl, hb3⟩
        have hbA3 := b_then hbA2 hb3
        have hbz3 := b_then hb1 hbA3
        obtain ⟨l30, l31, l32, l33, l34, l35, l36, l37⟩ := q _ hbA3
        rw [HBN.out]
        generalize btwE s a b = E2
        go_wp2_with fail
        refine (r06factor x _ a b c t _ (hx'.out.mono hbz3)).mono ?_
        rintro e w4 ⟨rfl, hb4⟩
        have hbA4 := b_then hbA3 hb4
        have hbz4 := b_then hb1 hbA4
        obtain ⟨l40, l41, l42, l43, l44, l45, l46, l47⟩ := q _ hbA4
        have hw := HWW.out
        go_wp2
        go_ret2
        exact ⟨rfl, hbz4⟩
      · rw [z2]
        have hRe : R = 2 := by rw [← HR.out]; simp only [sigE, Q.out, Q1.out, z2]; rfl
        subst hRe
        have hNe : N = 0 := by rw [← HN.out, sigN, HR.out]; rfl
        subst hNe
        go_wp2
        go_ret2
        exact ⟨rfl, hbz2⟩
    · rw [z1]
      have hRe : R = 2 := by rw [← HR.out]; simp only [sigE, Q.out, z1]; rfl
      subst hRe
      have hNe : N = 0 := by rw [← HN.out, sigN, HR.out]; rfl
      subst hNe
      go_wp2
      go_ret2
      exact ⟨rfl, hbz2⟩
  · have hRe : R = nodesE s x a b := by rw [← HR.out, sigE, if_neg z]
    have hNe : N = 0 := by rw [← HN.out, sigN, HR.out, hRe, if_neg z]
    subst hNe
    rw [← hRe]
    rw [← hRe] at z
    have g : (R != 0) = true := by simpa using z
    have g2 : (R == 0) = false := by simpa using z
    clear z hRe
    go_wp2
    go_ret2
    exact ⟨rfl, hbz2⟩
theorem r06Worst (s : Site) (x : Spm) (v xv : Value) (a b : Int) (w : World) (hs : SiteV w v s) (hx : SpmV w xv x) :
    Calls Try.prog 31 #[v, xv, .int .i64 a, .int .i64 b] w fun e w' => e = .returned (.tuple #[.int .i64 (wstN s x a b), .int .i64 (nodesE s x a b)]) ∧ Below w.heap.size w w' := by
  have hu := Try.underlying45
  have hu2 := Try.underlying25
  have hu3 := Try.underlying47
  have hs' := Lib.hid hs
  obtain ⟨v0, v1, v2, rfl, h0, h1, h2⟩ := hs
  obtain ⟨A0, c0, rfl, hc0, hm0, hr0⟩ := h0
  obtain ⟨A1, c1, rfl, hc1, hm1, hr1⟩ := h1
  obtain ⟨A2, c2, rfl, hc2, hm2, hr2⟩ := h2
  unfold big at hm0 hm1 hm2
  have hx' := Lib.hid hx
  obtain ⟨x0, x1, rfl, h3, h4⟩ := hx
  have H3 := Lib.hid h3
  have H4 := Lib.hid h4
  obtain ⟨A3, c3, rfl, hc3, hm3, hr3⟩ := h3
  obtain ⟨A4, c4, rfl, hc4, hm4, hr4⟩ := h4
  unfold big at hm3 hm4
  obtain ⟨R, hR⟩ : ∃ R, nodesE s x a b = R := ⟨_, rfl⟩
  obtain ⟨N, hN⟩ : ∃ N, wstN s x a b = N := ⟨_, rfl⟩
  rw [hR, hN]
  have HR := Lib.hid hR
  have HN := Lib.hid hN
  clear hR hN
  obtain ⟨W1, hW1⟩ : ∃ W : World, W = ((w.alloc (.cells #[.slice A0 s.nodes.length c0, .slice A1 s.powers.length c1, .slice A2 s.walls.length c2, .int .i64 s.ex, .int .i64 s.noise, .int .i64 s.thr] 45)).alloc (.cells #[.slice A3 x.srcs.length c3, .slice A4 x.fds.length c4] 25)) := ⟨_, rfl⟩
  have hb1 : Below w.heap.size w W1 := by rw [hW1]; (repeat (first | exact Below.refl _ _ | assumption | apply b_alloc | apply b_drewN | apply b_drew))
  have q : ∀ wr : World, Below W1.heap.size W1 wr → wr.cell? ⟨w.heap.size, 0, none⟩ = some (.slice A0 s.nodes.length c0) ∧ wr.cell? ⟨w.heap.size, 1, none⟩ = some (.slice A1 s.powers.length c1) ∧ wr.cell? ⟨w.heap.size, 2, none⟩ = some (.slice A2 s.walls.length c2) ∧ wr.cell? ⟨w.heap.size, 3, none⟩ = some (.int .i64 s.ex) ∧ wr.cell? ⟨w.heap.size, 4, none⟩ = some (.int .i64 s.noise) ∧ wr.cell? ⟨w.heap.size, 5, none⟩ = some (.int .i64 s.thr) ∧ wr.cell? ⟨w.heap.size + 1, 0, none⟩ = some (.slice A3 x.srcs.length c3) ∧ wr.cell? ⟨w.heap.size + 1, 1, none⟩ = some (.slice A4 x.fds.length c4) := fun wr hwr => ⟨cell_mono hwr (by rw [hW1]; go_simp), cell_mono hwr (by rw [hW1]; go_simp), cell_mono hwr (by rw [hW1]; go_simp), cell_mono hwr (by rw [hW1]; go_simp), cell_mono hwr (by rw [hW1]; go_simp), cell_mono hwr (by rw [hW1]; go_simp), cell_mono hwr (by rw [hW1]; go_simp), cell_mono hwr (by rw [hW1]; go_simp)⟩
  have HW := Lib.hid hW1
  clear hW1
  go_enter Try.func31, Try.ntmps31
  go_wp2_with fail
  rw [← HW.out]
  have hbA1 : Below W1.heap.size W1 W1 := Below.refl _ _
  refine (r06nodes s x _ _ a b _ (hs'.out.mono hb1) (hx'.out.mono hb1)).mono ?_
  rintro e w2 ⟨rfl, hbA2⟩
  have hbz2 := b_then hb1 hbA2
  obtain ⟨l20, l21, l22, l23, l24, l25, l26, l27⟩ := q _ hbA2
  by_cases z : R = 0
  · have zz : nodesE s x a b = 0 := HR.out.trans z
    rw [zz]
    subst z
    have hNe : N = betweenI s a b * (leastI (fun f => everB f a b) x.fds) / 1000 := by rw [← HN.out, wstN, zz]; rfl
    obtain ⟨hv, hxv, ha, hb⟩ := nodes_zero zz
    obtain ⟨f0, f1⟩ : 0 ≤ leastI (fun f => everB f a b) x.fds ∧ leastI (fun f => everB f a b) x.fds ≤ 1000 := worst_bd hxv a b
    have hbN : btwN s a b = betweenI s a b := by simp [btwN, hv, ha, hb]
    obtain ⟨p0, p1⟩ := pow_is (between_pow (b := b) hv ha)
    have hm0 : 0 ≤ betweenI s a b * (leastI (fun f => everB f a b) x.fds) := Int.mul_nonneg p0 f0
    have hm1 : betweenI s a b * (leastI (fun f => everB f a b) x.fds) ≤ 68719476736 * 1000 := Int.mul_le_mul p1 f1 f0 (by omega)
    have hw : wrap64 (betweenI s a b * (leastI (fun f => everB f a b) x.fds)) = betweenI s a b * (leastI (fun f => everB f a b) x.fds) := w64 (by omega) (by omega)
    have HBN := Lib.hid hbN
    have HWW := Lib.hid hw
    have HNe := Lib.hid hNe
    clear zz hNe hbN hv hxv ha hb hw
    go_wp2_with fail
    go_loopw [11, 12] (fun o i wr => ∃ k : Nat, k ≤ x.fds.length ∧ i = .int .i64 k ∧ o = .int .i64 (leastI (fun f => everB f a b) (x.fds.take k)) ∧ Below W1.heap.size W1 wr) (fun _ i _ => x.fds.length - (intOf i).toNat)
    case atStart => exact ⟨0, Nat.zero_le _, rfl, rfl, hbA2⟩
    case round =>
      obtain ⟨k, hk, rfl, rfl, hbw⟩ := hrel
      obtain ⟨l0, l1, l2, l3, l4, l5, l6, l7⟩ := q _ hbw
      by_cases hlt : k < x.fds.length
      · obtain ⟨f, hf⟩ : ∃ f, x.fds[k]? = some f := ⟨_, List.getElem?_eq_getElem hlt⟩
        obtain ⟨b0, off, hAe, e0, e1, e2, e3, e4, e5⟩ := hr4.fd (b_then hb1 hbw) hf
        subst hAe
        have hsn := least_snoc (fun f => everB f a b) hf
        generalize hpg : leastI (fun f => everB f a b) (x.fds.take k) = pk at hsn ⊢
        have Hsn := Lib.hid hsn
        clear hf hsn hpg
        obtain ⟨frm, to, ch, first, til, fac⟩ := f
        dsimp only at *
        have hap : everB ⟨frm, to, ch, first, til, fac⟩ a b = ((decide (frm = -1) || decide (frm = a)) && (decide (to = -1) || decide (to = b)) && decide (first < til)) := rfl
        generalize hA : everB ⟨frm, to, ch, first, til, fac⟩ a b = A at hap Hsn
        have Hap := Lib.hid hap
        clear hA hap
        go_wp2_with fail
        all_goals
          (go_roundw
           case rel => exact ⟨k + 1, by omega, by go_num, by rw [Hsn.out, Hap.out]; simp [*] <;> (try (intros; omega)), b_alloc hbw _⟩
           case measure => simp [intOf]; omega)
      · obtain rfl : k = x.fds.length := by omega
        have hbz3 := b_then hb1 hbw
        go_wp2_with fail
        rw [List.take_length]
        refine (r05Between s _ a b _ (hs'.out.mono hbz3)).mono ?_
        rintro e w4 ⟨rfl, hb4⟩
        rw [HBN.out]
        generalize btwE s a b = E2
        have hw := HWW.out
        go_wp2
        go_ret2
        exact ⟨ret_two (by rw [HNe.out]; rfl) rfl, b_then hbz3 hb4⟩
  · have hNe : N = 0 := by rw [← HN.out, wstN, HR.out, if_neg z]
    subst hNe
    rw [HR.out]
    have g : (R != 0) = true := by simpa using z
    have g2 : (R == 0) = false := by simpa using z
    clear z
    go_wp2
    go_ret2
    exact ⟨rfl, hbz2⟩
end Go.Proofs.Ytlndgoaobalenaa
