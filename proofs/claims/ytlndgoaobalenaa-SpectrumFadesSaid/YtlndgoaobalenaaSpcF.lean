/- Walks: the program's signal and its worst one. -/
import Derived.Test.YtlndgoaobalenaaSpcE
import Derived.Test.YtlndgoaobalenaaGeo6
namespace Go.Proofs.Ytlndgoaobalenaa
open Go.RowKit
attribute [local go_sem high] max2_mx min2_mn max_two min_two
set_option linter.unusedVariables false
set_option linter.unusedSimpArgs false
set_option maxHeartbeats 4000000
set_option maxRecDepth 100000
theorem sWorst1 (f : Fd) (B1 B2 : Nat) (a b : Int) (w : World) (h1 : w.cell? ⟨B1, 0, none⟩ = some (.int .i64 a)) (h2 : w.cell? ⟨B2, 0, none⟩ = some (.int .i64 b)) :
    Calls Try.prog 60 #[.agg #[.int .i64 (f).frm, .int .i64 (f).to, .int .i64 (f).ch, .int .i64 (f).first, .int .i64 (f).til, .int .i64 (f).fac], .pointer (some ⟨B1, 0, none⟩), .pointer (some ⟨B2, 0, none⟩)] w fun e w' => e = .returned (.bool (everB f a b)) ∧ Below w.heap.size w w' := by
  have hu := Try.underlying47
  have hbx : Below w.heap.size w (w.alloc (.cells #[.int .i64 f.frm, .int .i64 f.to, .int .i64 f.ch, .int .i64 f.first, .int .i64 f.til, .int .i64 f.fac] 47)) := by (repeat (first | exact Below.refl _ _ | assumption | apply b_alloc | apply b_drewN | apply b_drew))
  have m1 := cell_mono hbx h1
  have m2 := cell_mono hbx h2
  go_enter Try.func60, Try.ntmps60
  go_wp2_with fail
  refine (sBetween f a b _).mono ?_
  rintro e w2 ⟨rfl, hb2⟩
  have hbz := b_then (show Below w.heap.size w _ by (repeat (first | exact Below.refl _ _ | assumption | apply b_alloc | apply b_drewN | apply b_drew))) hb2
  have t3 := box_at hb2 rfl 3 rfl
  have t4 := box_at hb2 rfl 4 rfl
  rcases Bool.eq_false_or_eq_true (betB f a b) with q | q
  · rw [q]
    have Hq := Lib.hid q
    clear q
    go_wp2
    go_ret
    exact ⟨ret_bool (by simp [everB, Hq.out]), hbz⟩
  · rw [q]
    go_wp2
    go_ret
    exact ⟨ret_bool (by simp [everB, q]), hbz⟩
theorem sLeast2 (fs : List Fd) (v : Value) (B1 B2 : Nat) (a b : Int) (w : World) (h : SlV 6 KFd w v fs) (h1 : w.cell? ⟨B1, 0, none⟩ = some (.int .i64 a)) (h2 : w.cell? ⟨B2, 0, none⟩ = some (.int .i64 b)) :
    Calls Try.prog 62 #[.agg #[.func (.func 60) #[] #[.pointer (some ⟨B1, 0, none⟩), .pointer (some ⟨B2, 0, none⟩)]], v] w fun e w' => e = .returned (.int .i64 (leastI (fun f => everB f a b) fs)) ∧ Below w.heap.size w w' := by
  have hu := Try.underlying47
  have hu2 := Try.underlying83
  obtain ⟨A, c0, rfl, hc, hm, hr⟩ := h
  unfold big at hm
  obtain ⟨W1, hW1⟩ : ∃ W1, W1 = w.alloc (.cells #[.func (.func 60) #[] #[.pointer (some ⟨B1, 0, none⟩), .pointer (some ⟨B2, 0, none⟩)]] 83) := ⟨_, rfl⟩
  have hb1 : Below w.heap.size w W1 := by rw [hW1]; (repeat (first | exact Below.refl _ _ | assumption | apply b_alloc | apply b_drewN | apply b_drew))
  have HW := Lib.hid hW1
  clear hW1
  go_enter Try.func62, Try.ntmps62
  go_wp2_with fail
  rw [← HW.out]
  go_loopw [5, 10] (fun o i wr => ∃ k : Nat, k ≤ fs.length ∧ i = .int .i64 k ∧ o = .int .i64 (leastI (fun f => everB f a b) (fs.take k)) ∧ Below W1.heap.size W1 wr) (fun _ i _ => fs.length - (intOf i).toNat)
  case atStart => exact ⟨0, Nat.zero_le _, rfl, rfl, Below.refl _ _⟩
  case round =>
    obtain ⟨k, hk, rfl, rfl, hbw⟩ := hrel
    have t0 := box_at hbw HW.out 0 rfl
    by_cases hlt : k < fs.length
    · obtain ⟨f, hx⟩ : ∃ f, fs[k]? = some f := ⟨_, List.getElem?_eq_getElem hlt⟩
      obtain ⟨b0, off, rfl, e0, e1, e2, e3, e4, e5⟩ := hr.fd (b_then hb1 hbw) hx
      have hsn := least_snoc (fun f => everB f a b) hx
      have Hsn := Lib.hid hsn
      clear hx hsn
      have hbn : Below w.heap.size w (wr.alloc (.cells #[.int .i64 f.frm, .int .i64 f.to, .int .i64 f.ch, .int .i64 f.first, .int .i64 f.til, .int .i64 f.fac] 47)) := b_alloc (b_then hb1 hbw) _
      have t0' := box_at (b_then hbw (b_alloc (Below.refl _ _) (.cells #[.int .i64 f.frm, .int .i64 f.to, .int .i64 f.ch, .int .i64 f.first, .int .i64 f.til, .int .i64 f.fac] 47))) HW.out 0 rfl
      go_wp2_with fail
      refine (sWorst1 f B1 B2 a b _ (cell_mono hbn h1) (cell_mono hbn h2)).mono ?_
      rintro e w2 ⟨rfl, hb2⟩
      have t5 := box_at hb2 rfl 5 rfl
      rcases Bool.eq_false_or_eq_true (everB f a b) with q | q
      · rw [q]
        have Hq := Lib.hid q
        clear q
        go_wp2
        go_roundw
        case rel => exact ⟨k + 1, by omega, by go_num, by rw [Hsn.out]; simp only [Hq.out, if_true], b_then hbw (b_then (b_alloc (Below.refl _ _) _) hb2)⟩
        case measure => simp [intOf]; omega
      · rw [q]
        have Hq := Lib.hid q
        clear q
        go_wp2
        go_roundw
        case rel => exact ⟨k + 1, by omega, by go_num, by rw [Hsn.out]; simp only [Hq.out]; rfl, b_then hbw (b_then (b_alloc (Below.refl _ _) _) hb2)⟩
        case measure => simp [intOf]; omega
    · go_wp2
      go_ret
      exact ⟨ret_int (by rw [List.take_of_length_le (by omega)]), b_then hb1 hbw⟩
theorem sPair (s : Site) (x : Spm) (v xv : Value) (a b : Int) (w : World) (hs : SiteV w v s) (hx : SpmV w xv x) :
    Calls Try.prog 57 #[v, xv, .int .i64 a, .int .i64 b] w fun e w' => e = .returned (.tuple #[.int .i64 (pairN s x a b), .int .i64 (nodesE s x a b)]) ∧ Below w.heap.size w w' := by
  have hu := Try.underlying45
  have hu2 := Try.underlying25
  have hs' := Lib.hid hs
  obtain ⟨v0, v1, v2, rfl, h0, h1, h2⟩ := hs
  obtain ⟨A0, c0, rfl, hc0, hm0, hr0⟩ := h0
  obtain ⟨A1, c1, rfl, hc1, hm1, hr1⟩ := h1
  obtain ⟨A2, c2, rfl, hc2, hm2, hr2⟩ := h2
  unfold big at hm0 hm1 hm2
  have hx' := Lib.hid hx
  obtain ⟨x0, x1, rfl, h3, h4⟩ := hx
  have H3 := Lib.hid h3
  have H4 := Lib.hid h4
  obtain ⟨A3, c3, rfl, hc3, hm3, hr3⟩ := h3
  obtain ⟨A4, c4, rfl, hc4, hm4, hr4⟩ := h4
  unfold big at hm3 hm4
  obtain ⟨R, hR⟩ : ∃ R, nodesE s x a b = R := ⟨_, rfl⟩
  obtain ⟨N, hN⟩ : ∃ N, pairN s x a b = N := ⟨_, rfl⟩
  rw [hR, hN]
  have HR := Lib.hid hR
  have HN := Lib.hid hN
  clear hR hN
  obtain ⟨W1, hW1⟩ : ∃ W : World, W = ((w.alloc (.cells #[.slice A0 s.nodes.length c0, .slice A1 s.powers.length c1, .slice A2 s.walls.length c2, .int .i64 s.ex, .int .i64 s.noise, .int .i64 s.thr] 45)).alloc (.cells #[.slice A3 x.srcs.length c3, .slice A4 x.fds.length c4] 25)) := ⟨_, rfl⟩
  have hb1 : Below w.heap.size w W1 := by rw [hW1]; (repeat (first | exact Below.refl _ _ | assumption | apply b_alloc | apply b_drewN | apply b_drew))
  have q : ∀ wr : World, Below W1.heap.size W1 wr → wr.cell? ⟨w.heap.size, 0, none⟩ = some (.slice A0 s.nodes.length c0) ∧ wr.cell? ⟨w.heap.size, 1, none⟩ = some (.slice A1 s.powers.length c1) ∧ wr.cell? ⟨w.heap.size, 2, none⟩ = some (.slice A2 s.walls.length c2) ∧ wr.cell? ⟨w.heap.size, 3, none⟩ = some (.int .i64 s.ex) ∧ wr.cell? ⟨w.heap.size, 4, none⟩ = some (.int .i64 s.noise) ∧ wr.cell? ⟨w.heap.size, 5, none⟩ = some (.int .i64 s.thr) ∧ wr.cell? ⟨w.heap.size + 1, 0, none⟩ = some (.slice A3 x.srcs.length c3) ∧ wr.cell? ⟨w.heap.size + 1, 1, none⟩ = some (.slice A4 x.fds.length c4) := fun wr hwr => ⟨cell_mono hwr (by rw [hW1]; go_simp), cell_mono hwr (by rw [hW1]; go_simp), cell_mono hwr (by rw [hW1]; go_simp), cell_mono hwr (by rw [hW1]; go_simp), cell_mono hwr (by rw [hW1]; go_simp), cell_mono hwr (by rw [hW1]; go_simp), cell_mono hwr (by rw [hW1]; go_simp), cell_mono hwr (by rw [hW1]; go_simp)⟩
  have HW := Lib.hid hW1
  clear hW1
  go_enter Try.func57, Try.ntmps57
  go_wp2_with fail
  rw [← HW.out]
  have hbA1 : Below W1.heap.size W1 W1 := Below.refl _ _
  refine (gCheck s _ _ (hs'.out.mono hb1)).mono ?_
  rintro e w2 ⟨rfl, hbA2⟩
  have hbz2 := b_then hb1 hbA2
  obtain ⟨l20, l21, l22, l23, l24, l25, l26, l27⟩ := q _ hbA2
  rcases Bool.eq_false_or_eq_true (siteB s) with z | z
  · rw [z, okN_true]
    have Q := Lib.hid z
    clear z
    go_wp2_with fail
    refine (sCheck x _ _ (hx'.out.mono hbz2)).mono ?_
    rintro e w3 ⟨rfl, hb3⟩
    have hbA3 := b_then hbA2 hb3
    have hbz3 := b_then hb1 hbA3
    obtain ⟨l30, l31, l32, l33, l34, l35, l36, l37⟩ := q _ hbA3
    rcases Bool.eq_false_or_eq_true (spmB x) with z | z
    · rw [z, okN_true]
      have Q1 := Lib.hid z
      clear z
      have hRe : R = btwE s a b := by rw [← HR.out]; simp only [nodesE, btwE, Q.out, Q1.out, Bool.and_true, if_true]
      have hNe : N = btwN s a b := by
        rw [← HN.out, pairN, HR.out, hRe]
        unfold btwE btwN
        rw [Q.out]
        rcases Bool.eq_false_or_eq_true (inB s a && inB s b) with y | y <;> rw [y] <;> rfl
      subst hRe
      subst hNe
      go_wp2_with fail
      refine (gBetween s _ a b _ (hs'.out.mono hbz3)).mono ?_
      rintro e w4 ⟨rfl, hb4⟩
      have hbA4 := b_then hbA3 hb4
      have hbz4 := b_then hb1 hbA4
      obtain ⟨l40, l41, l42, l43, l44, l45, l46, l47⟩ := q _ hbA4
      go_wp2
      go_ret2
      exact ⟨rfl, hbz4⟩
    · rw [z, okN_false]
      have hRe : R = 1 := by rw [← HR.out]; simp only [nodesE, Q.out, z]; rfl
      subst hRe
      have hNe : N = 0 := by rw [← HN.out, pairN, HR.out]; rfl
      subst hNe
      go_wp2
      go_ret2
      exact ⟨rfl, hbz3⟩
  · rw [z, okN_false]
    have hRe : R = 1 := by rw [← HR.out]; simp only [nodesE, z]; rfl
    subst hRe
    have hNe : N = 0 := by rw [← HN.out, pairN, HR.out]; rfl
    subst hNe
    go_wp2
    go_ret2
    exact ⟨rfl, hbz2⟩
theorem sSignal (s : Site) (x : Spm) (v xv : Value) (a b c t : Int) (w : World) (hs : SiteV w v s) (hx : SpmV w xv x) :
    Calls Try.prog 28 #[v, xv, .int .i64 a, .int .i64 b, .int .i64 c, .int .i64 t] w fun e w' => e = .returned (.tuple #[.int .i64 (sigN s x a b c t), .int .i64 (sigE s x a b c t)]) ∧ Below w.heap.size w w' := by
  have hu := Try.underlying45
  have hu2 := Try.underlying25
  have hs' := Lib.hid hs
  obtain ⟨v0, v1, v2, rfl, h0, h1, h2⟩ := hs
  obtain ⟨A0, c0, rfl, hc0, hm0, hr0⟩ := h0
  obtain ⟨A1, c1, rfl, hc1, hm1, hr1⟩ := h1
  obtain ⟨A2, c2, rfl, hc2, hm2, hr2⟩ := h2
  unfold big at hm0 hm1 hm2
  have hx' := Lib.hid hx
  obtain ⟨x0, x1, rfl, h3, h4⟩ := hx
  have H3 := Lib.hid h3
  have H4 := Lib.hid h4
  obtain ⟨A3, c3, rfl, hc3, hm3, hr3⟩ := h3
  obtain ⟨A4, c4, rfl, hc4, hm4, hr4⟩ := h4
  unfold big at hm3 hm4
  obtain ⟨R, hR⟩ : ∃ R, sigE s x a b c t = R := ⟨_, rfl⟩
  obtain ⟨N, hN⟩ : ∃ N, sigN s x a b c t = N := ⟨_, rfl⟩
  rw [hR, hN]
  have HR := Lib.hid hR
  have HN := Lib.hid hN
  clear hR hN
  obtain ⟨W1, hW1⟩ : ∃ W : World, W = ((w.alloc (.cells #[.slice A0 s.nodes.length c0, .slice A1 s.powers.length c1, .slice A2 s.walls.length c2, .int .i64 s.ex, .int .i64 s.noise, .int .i64 s.thr] 45)).alloc (.cells #[.slice A3 x.srcs.length c3, .slice A4 x.fds.length c4] 25)) := ⟨_, rfl⟩
  have hb1 : Below w.heap.size w W1 := by rw [hW1]; (repeat (first | exact Below.refl _ _ | assumption | apply b_alloc | apply b_drewN | apply b_drew))
  have q : ∀ wr : World, Below W1.heap.size W1 wr → wr.cell? ⟨w.heap.size, 0, none⟩ = some (.slice A0 s.nodes.length c0) ∧ wr.cell? ⟨w.heap.size, 1, none⟩ = some (.slice A1 s.powers.length c1) ∧ wr.cell? ⟨w.heap.size, 2, none⟩ = some (.slice A2 s.walls.length c2) ∧ wr.cell? ⟨w.heap.size, 3, none⟩ = some (.int .i64 s.ex) ∧ wr.cell? ⟨w.heap.size, 4, none⟩ = some (.int .i64 s.noise) ∧ wr.cell? ⟨w.heap.size, 5, none⟩ = some (.int .i64 s.thr) ∧ wr.cell? ⟨w.heap.size + 1, 0, none⟩ = some (.slice A3 x.srcs.length c3) ∧ wr.cell? ⟨w.heap.size + 1, 1, none⟩ = some (.slice A4 x.fds.length c4) := fun wr hwr => ⟨cell_mono hwr (by rw [hW1]; go_simp), cell_mono hwr (by rw [hW1]; go_simp), cell_mono hwr (by rw [hW1]; go_simp), cell_mono hwr (by rw [hW1]; go_simp), cell_mono hwr (by rw [hW1]; go_simp), cell_mono hwr (by rw [hW1]; go_simp), cell_mono hwr (by rw [hW1]; go_simp), cell_mono hwr (by rw [hW1]; go_simp)⟩
  have HW := Lib.hid hW1
  clear hW1
  go_enter Try.func28, Try.ntmps28
  go_wp2_with fail
  rw [← HW.out]
  have hbA1 : Below W1.heap.size W1 W1 := Below.refl _ _
  refine (sPair s x _ _ a b _ (hs'.out.mono hb1) (hx'.out.mono hb1)).mono ?_
  rintro e w2 ⟨rfl, hbA2⟩
  have hbz2 := b_then hb1 hbA2
  obtain ⟨l20, l21, l22, l23, l24, l25, l26, l27⟩ := q _ hbA2
  by_cases z : nodesE s x a b = 0
  · have hpN : pairN s x a b = betweenI s a b := by simp [pairN, z]
    rw [z, hpN]
    have Q := Lib.hid z
    obtain ⟨hv, hxv, ha, hb⟩ := nodes_zero z
    obtain ⟨p0, p1⟩ := pow_is (between_pow (b := b) hv ha)
    obtain ⟨f0, f1⟩ := factor_bd hxv a b c t
    have hsc : scaleB (betweenI s a b) (factorI x a b c t) = true := by simp [scaleB, powB]; omega
    have Hsc := Lib.hid hsc
    clear z hpN hv hxv ha hb hsc
    go_wp2_with fail
    refine (sChannel c _).mono ?_
    rintro e wf ⟨rfl, rfl⟩
    rcases Bool.eq_false_or_eq_true (chB c) with z1 | z1
    · rw [z1]
      have Q1 := Lib.hid z1
      clear z1
      by_cases G : 0 ≤ t ∧ t ≤ 1099511627776
      · obtain ⟨t0, t1⟩ := G
        have hRe : R = 0 := by rw [← HR.out]; simp only [sigE, Q.out, Q1.out]; simp [tmB, t0, t1]
        subst hRe
        have hNe : N = scaleN (betweenI s a b) (factorI x a b c t) := by rw [← HN.out, sigN, HR.out, scaleN, Hsc.out]; rfl
        have hsE : scaleE (betweenI s a b) (factorI x a b c t) = 0 := by rw [scaleE, Hsc.out]; rfl
        have HSE := Lib.hid hsE
        subst hNe
        clear hsE p0 p1 f0 f1
        go_wp2_with fail
        refine (sFactor0 x _ a b c t _ (hx'.out.mono hbz2)).mono ?_
        rintro e w3 ⟨rfl, hb3⟩
        have hbA3 := b_then hbA2 hb3
        have hbz3 := b_then hb1 hbA3
        obtain ⟨l30, l31, l32, l33, l34, l35, l36, l37⟩ := q _ hbA3
        go_wp2_with fail
        refine (pScale _ _ _).mono ?_
        rintro e wf ⟨rfl, rfl⟩
        rw [HSE.out]
        go_wp2
        go_ret2
        exact ⟨rfl, hbz3⟩
      · have hRe : R = 2 := by
          rw [← HR.out]; simp only [sigE, Q.out, Q1.out]
          have : tmB t = false := by rw [Bool.eq_false_iff]; intro h; apply G; simpa [tmB] using h
          rw [this]; rfl
        subst hRe
        have hNe : N = 0 := by rw [← HN.out, sigN, HR.out]; rfl
        subst hNe
        have HG := Lib.hid G
        clear G
        go_wp2_with fail
        all_goals first
          | (go_ret2; exact ⟨rfl, hbz2⟩)
          | (exfalso; have := HG.out; omega)
    · rw [z1]
      have hRe : R = 2 := by rw [← HR.out]; simp only [sigE, Q.out, z1]; rfl
      subst hRe
      have hNe : N = 0 := by rw [← HN.out, sigN, HR.out]; rfl
      subst hNe
      go_wp2
      go_ret2
      exact ⟨rfl, hbz2⟩
  · have hpN : pairN s x a b = 0 := by simp [pairN, z]
    have hRe : R = nodesE s x a b := by rw [← HR.out, sigE, if_neg z]
    have hNe : N = 0 := by rw [← HN.out, sigN, HR.out, hRe, if_neg z]
    subst hNe
    rw [hpN, ← hRe]
    rw [← hRe] at z
    have g : (R != 0) = true := by simpa using z
    have g2 : (R == 0) = false := by simpa using z
    clear hpN z hRe
    go_wp2
    go_ret2
    exact ⟨rfl, hbz2⟩
theorem sWorst (s : Site) (x : Spm) (v xv : Value) (a b : Int) (w : World) (hs : SiteV w v s) (hx : SpmV w xv x) :
    Calls Try.prog 30 #[v, xv, .int .i64 a, .int .i64 b] w fun e w' => e = .returned (.tuple #[.int .i64 (wstN s x a b), .int .i64 (nodesE s x a b)]) ∧ Below w.heap.size w w' := by
  have hu := Try.underlying45
  have hu2 := Try.underlying25
  have hu3 := Try.underlying83
  have hs' := Lib.hid hs
  obtain ⟨v0, v1, v2, rfl, h0, h1, h2⟩ := hs
  obtain ⟨A0, c0, rfl, hc0, hm0, hr0⟩ := h0
  obtain ⟨A1, c1, rfl, hc1, hm1, hr1⟩ := h1
  obtain ⟨A2, c2, rfl, hc2, hm2, hr2⟩ := h2
  unfold big at hm0 hm1 hm2
  have hx' := Lib.hid hx
  obtain ⟨x0, x1, rfl, h3, h4⟩ := hx
  have H3 := Lib.hid h3
  have H4 := Lib.hid h4
  obtain ⟨A3, c3, rfl, hc3, hm3, hr3⟩ := h3
  obtain ⟨A4, c4, rfl, hc4, hm4, hr4⟩ := h4
  unfold big at hm3 hm4
  obtain ⟨R, hR⟩ : ∃ R, nodesE s x a b = R := ⟨_, rfl⟩
  obtain ⟨N, hN⟩ : ∃ N, wstN s x a b = N := ⟨_, rfl⟩
  rw [hR, hN]
  have HR := Lib.hid hR
  have HN := Lib.hid hN
  clear hR hN
  obtain ⟨W1, hW1⟩ : ∃ W : World, W = ((((w.alloc (.cells #[.slice A0 s.nodes.length c0, .slice A1 s.powers.length c1, .slice A2 s.walls.length c2, .int .i64 s.ex, .int .i64 s.noise, .int .i64 s.thr] 45)).alloc (.cells #[.slice A3 x.srcs.length c3, .slice A4 x.fds.length c4] 25)).alloc (.cells #[.int .i64 a] 3)).alloc (.cells #[.int .i64 b] 3)) := ⟨_, rfl⟩
  have hb1 : Below w.heap.size w W1 := by rw [hW1]; (repeat (first | exact Below.refl _ _ | assumption | apply b_alloc | apply b_drewN | apply b_drew))
  have q : ∀ wr : World, Below W1.heap.size W1 wr → wr.cell? ⟨w.heap.size, 0, none⟩ = some (.slice A0 s.nodes.length c0) ∧ wr.cell? ⟨w.heap.size, 1, none⟩ = some (.slice A1 s.powers.length c1) ∧ wr.cell? ⟨w.heap.size, 2, none⟩ = some (.slice A2 s.walls.length c2) ∧ wr.cell? ⟨w.heap.size, 3, none⟩ = some (.int .i64 s.ex) ∧ wr.cell? ⟨w.heap.size, 4, none⟩ = some (.int .i64 s.noise) ∧ wr.cell? ⟨w.heap.size, 5, none⟩ = some (.int .i64 s.thr) ∧ wr.cell? ⟨w.heap.size + 1, 0, none⟩ = some (.slice A3 x.srcs.length c3) ∧ wr.cell? ⟨w.heap.size + 1, 1, none⟩ = some (.slice A4 x.fds.length c4) ∧ wr.cell? ⟨w.heap.size + 1 + 1, 0, none⟩ = some (.int .i64 a) ∧ wr.cell? ⟨w.heap.size + 1 + 1 + 1, 0, none⟩ = some (.int .i64 b) := fun wr hwr => ⟨cell_mono hwr (by rw [hW1]; go_simp), cell_mono hwr (by rw [hW1]; go_simp), cell_mono hwr (by rw [hW1]; go_simp), cell_mono hwr (by rw [hW1]; go_simp), cell_mono hwr (by rw [hW1]; go_simp), cell_mono hwr (by rw [hW1]; go_simp), cell_mono hwr (by rw [hW1]; go_simp), cell_mono hwr (by rw [hW1]; go_simp), cell_mono hwr (by rw [hW1]; go_simp), cell_mono hwr (by rw [hW1]; go_simp)⟩
  have HW := Lib.hid hW1
  clear hW1
  go_enter Try.func30, Try.ntmps30
  go_wp2_with fail
  rw [← HW.out]
  have hbA1 : Below W1.heap.size W1 W1 := Below.refl _ _
  refine (sPair s x _ _ a b _ (hs'.out.mono hb1) (hx'.out.mono hb1)).mono ?_
  rintro e w2 ⟨rfl, hbA2⟩
  have hbz2 := b_then hb1 hbA2
  obtain ⟨l20, l21, l22, l23, l24, l25, l26, l27, l28, l29⟩ := q _ hbA2
  by_cases z : R = 0
  · have zz : nodesE s x a b = 0 := HR.out.trans z
    have hpN : pairN s x a b = betweenI s a b := by simp [pairN, zz]
    obtain ⟨hv, hxv, ha, hb⟩ := nodes_zero zz
    obtain ⟨p0, p1⟩ := pow_is (between_pow (b := b) hv ha)
    obtain ⟨f0, f1⟩ := worst_bd hxv a b
    have hsc : scaleB (betweenI s a b) (worstI x a b) = true := by simp [scaleB, powB]; omega
    have hNe : N = scaleN (betweenI s a b) (worstI x a b) := by rw [← HN.out, wstN, zz, scaleN, hsc]; rfl
    have hsE : scaleE (betweenI s a b) (worstI x a b) = 0 := by rw [scaleE, hsc]; rfl
    have HSE := Lib.hid hsE
    subst hNe
    rw [zz, hpN]
    subst z
    clear hsE p0 p1 f0 f1 zz hpN hv hxv ha hb hsc
    have hbC : Below W1.heap.size W1 (w2.alloc (.cells #[.func (.func 60) #[] #[.pointer (some ⟨w.heap.size + 1 + 1, 0, none⟩), .pointer (some ⟨w.heap.size + 1 + 1 + 1, 0, none⟩)]] 83)) := b_alloc hbA2 _
    obtain ⟨m0, m1, m2, m3, m4, m5, m6, m7, m8, m9⟩ := q _ hbC
    go_wp2_with fail
    refine (sLeast2 x.fds _ (w.heap.size + 1 + 1) (w.heap.size + 1 + 1 + 1) a b _ (H4.out.mono KFd.st (b_alloc hbz2 _)) ?_ ?_).mono ?_
    · exact m8
    · exact m9
    rintro e w3 ⟨rfl, hb3⟩
    have hbz3 := b_then (b_alloc hbz2 _) hb3
    go_wp2_with fail
    refine (pScale _ (worstI x a b) _).mono ?_
    rintro e w4 ⟨rfl, rfl⟩
    rw [HSE.out]
    go_wp2
    go_ret2
    exact ⟨rfl, hbz3⟩
  · have hpN : pairN s x a b = 0 := by rw [pairN, HR.out, if_neg z]
    have hNe : N = 0 := by rw [← HN.out, wstN, HR.out, if_neg z]
    subst hNe
    rw [hpN, HR.out]
    have g : (R != 0) = true := by simpa using z
    have g2 : (R == 0) = false := by simpa using z
    clear hpN z
    go_wp2
    go_ret2
    exact ⟨rfl, hbz2⟩
end Go.Proofs.Ytlndgoaobalenaa
