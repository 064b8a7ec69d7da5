/- What is heard: the program. -/
import Derived.Test.YtpbhoeaadnemhaaGreatMF
import Derived.OwnWalk
namespace Go.Proofs.YtpbhoeaadnemhaaGreat
open Go.RowKit Go.Shelf
set_option linter.unusedVariables false
set_option linter.unusedSimpArgs false
set_option maxHeartbeats 4000000
set_option maxRecDepth 100000
theorem best_stay {p : Nat → Bool} {l : List Em} {n : Nat} (h : p n = false ∨ (0 ≤ bestTo p l n ∧ (emD l (bestTo p l n).toNat).frm ≤ (emD l n).frm)) : bestTo p l (n + 1) = bestTo p l n := by
  rw [bestTo, if_neg]
  simp only [Bool.and_eq_true, Bool.or_eq_true, decide_eq_true_eq]
  rintro ⟨h1, h2⟩
  rcases h with h | h
  · rw [h] at h1; cases h1
  · omega
theorem best_take {p : Nat → Bool} {l : List Em} {n : Nat} (h : p n = true) (h2 : bestTo p l n < 0 ∨ (emD l n).frm < (emD l (bestTo p l n).toNat).frm) : bestTo p l (n + 1) = n := by
  rw [bestTo, if_pos]
  simp only [Bool.and_eq_true, Bool.or_eq_true, decide_eq_true_eq]
  exact ⟨h, h2⟩
theorem aHear (s : Site) (x : Spm) (l : List Em) (y : Lis) (v xv lv : Value) (w : World) (hs : SiteV w v s) (hx : SpmV w xv x) (hl : SlV 4 KEm w lv l) :
    Calls Tryz.prog 7 #[v, xv, lv, .agg #[.int .i64 y.node, .int .i64 y.ch, .int .i64 y.frm, .int .i64 y.to]] w fun e w' => e = .returned (.tuple #[.int .i64 (hearN s x l y), .bool (heardB s x l y), .int .i64 (hearE s x l y)]) ∧ Below w.heap.size w w' := by
  have hu := Tryz.underlying26
  have hu2 := Tryz.underlying30
  have hu3 := Tryz.underlying42
  have hu4 := Tryz.underlying59
  have hu5 := Tryz.underlying35
  obtain ⟨yn, yc, yf, yt⟩ := y
  dsimp only
  obtain ⟨R, hR⟩ : ∃ R, hearE s x l ⟨yn, yc, yf, yt⟩ = R := ⟨_, rfl⟩
  obtain ⟨N, hN⟩ : ∃ N, hearN s x l ⟨yn, yc, yf, yt⟩ = N := ⟨_, rfl⟩
  obtain ⟨G, hG⟩ : ∃ G, heardB s x l ⟨yn, yc, yf, yt⟩ = G := ⟨_, rfl⟩
  rw [hR, hN, hG]
  have HR := Lib.hid hR
  have HN := Lib.hid hN
  have HG := Lib.hid hG
  have hbad : R ≠ 0 → N = 0 ∧ G = false := fun h => ⟨by rw [← hN, hearN, if_neg (by rw [hR]; exact h)], by rw [← hG, heardB, if_neg (by rw [hR]; exact h)]⟩
  have HBAD := Lib.hid hbad
  clear hR hN hG hbad
  have hs' := Lib.hid hs
  obtain ⟨v0, v1, v2, rfl, h0, h1, h2⟩ := hs
  obtain ⟨A0, c0, rfl, hc0, hm0, hr0⟩ := h0
  obtain ⟨A1, c1, rfl, hc1, hm1, hr1⟩ := h1
  obtain ⟨A2, c2, rfl, hc2, hm2, hr2⟩ := h2
  unfold big at hm0 hm1 hm2
  have hx' := Lib.hid hx
  obtain ⟨x0, x1, rfl, h3, h4⟩ := hx
  have H3 := Lib.hid h3
  have H4 := Lib.hid h4
  obtain ⟨A3, c3, rfl, hc3, hm3, hr3⟩ := h3
  obtain ⟨A4, c4, rfl, hc4, hm4, hr4⟩ := h4
  unfold big at hm3 hm4
  have hl' := Lib.hid hl
  obtain ⟨A5, c5, rfl, hc5, hm5, hr5⟩ := hl
  unfold big at hm5
  obtain ⟨W1, hW1⟩ : ∃ W : World, W = (((w.alloc (.cells #[.slice A0 s.nodes.length c0, .slice A1 s.powers.length c1, .slice A2 s.walls.length c2, .int .i64 s.ex, .int .i64 s.noise, .int .i64 s.thr] 26)).alloc (.cells #[.slice A3 x.srcs.length c3, .slice A4 x.fds.length c4] 30)).alloc (.cells #[.int .i64 yn, .int .i64 yc, .int .i64 yf, .int .i64 yt] 35)) := ⟨_, rfl⟩; have hb1 : Below w.heap.size w W1 := (by rw [hW1]; (repeat (first | exact Below.refl _ _ | assumption | apply b_alloc | apply b_drewN | apply b_drew))); have q : ∀ wq : World, Below W1.heap.size W1 wq → wq.cell? ⟨w.heap.size, 0, none⟩ = some (.slice A0 s.nodes.length c0) ∧ wq.cell? ⟨w.heap.size, 1, none⟩ = some (.slice A1 s.powers.length c1) ∧ wq.cell? ⟨w.heap.size, 2, none⟩ = some (.slice A2 s.walls.length c2) ∧ wq.cell? ⟨w.heap.size, 3, none⟩ = some (.int .i64 s.ex) ∧ wq.cell? ⟨w.heap.size, 4, none⟩ = some (.int .i64 s.noise) ∧ wq.cell? ⟨w.heap.size, 5, none⟩ = some (.int .i64 s.thr) ∧ wq.cell? ⟨w.heap.size + 1, 0, none⟩ = some (.slice A3 x.srcs.length c3) ∧ wq.cell? ⟨w.heap.size + 1, 1, none⟩ = some (.slice A4 x.fds.length c4) ∧ wq.cell? ⟨w.heap.size + 1 + 1, 0, none⟩ = some (.int .i64 yn) ∧ wq.cell? ⟨w.heap.size + 1 + 1, 1, none⟩ = some (.int .i64 yc) ∧ wq.cell? ⟨w.heap.size + 1 + 1, 2, none⟩ = some (.int .i64 yf) ∧ wq.cell? ⟨w.heap.size + 1 + 1, 3, none⟩ = some (.int .i64 yt) := (fun wq hwr => ⟨cell_mono hwr (by rw [hW1]; go_simp), cell_mono hwr (by rw [hW1]; go_simp), cell_mono hwr (by rw [hW1]; go_simp), cell_mono hwr (by rw [hW1]; go_simp), cell_mono hwr (by rw [hW1]; go_simp), cell_mono hwr (by rw [hW1]; go_simp), cell_mono hwr (by rw [hW1]; go_simp), cell_mono hwr (by rw [hW1]; go_simp), cell_mono hwr (by rw [hW1]; go_simp), cell_mono hwr (by rw [hW1]; go_simp), cell_mono hwr (by rw [hW1]; go_simp), cell_mono hwr (by rw [hW1]; go_simp)⟩); have HW := Lib.hid hW1; clear hW1
  go_enter Tryz.func7, Tryz.ntmps7
  go_wp2_with fail
  rw [← HW.out]
  refine (aBuild s x l _ (hs'.out.mono hb1) (hx'.out.mono hb1) (hl'.out.mono KEm.st hb1)).mono ?_
  rintro e w2 ⟨rfl, k4, k5, hb2⟩
  have hbz2 := b_then hb1 hb2
  have hsc : ScV w2 (.agg #[.slice A0 s.nodes.length c0, .slice A1 s.powers.length c1, .slice A2 s.walls.length c2, .int .i64 s.ex, .int .i64 s.noise, .int .i64 s.thr, .slice A3 x.srcs.length c3, .slice A4 x.fds.length c4, .slice A5 l.length c5, .func (.func 40) #[] #[.pointer (some ⟨W1.heap.size, 0, none⟩)]]) s x l := ⟨A0, c0, A1, c1, A2, c2, A3, c3, A4, c4, A5, c5, _, rfl, hs'.out.mono hbz2, hx'.out.mono hbz2, hl'.out.mono KEm.st hbz2, k4, k5⟩
  have HSC := Lib.hid hsc
  clear hsc
  obtain ⟨W2, hW2⟩ : ∃ W : World, W = (w2.alloc (.cells #[.slice A0 s.nodes.length c0, .slice A1 s.powers.length c1, .slice A2 s.walls.length c2, .int .i64 s.ex, .int .i64 s.noise, .int .i64 s.thr, .slice A3 x.srcs.length c3, .slice A4 x.fds.length c4, .slice A5 l.length c5, .func (.func 40) #[] #[.pointer (some ⟨W1.heap.size, 0, none⟩)]] 59)) := ⟨_, rfl⟩; have hbA : Below w2.heap.size w2 W2 := (by rw [hW2]; (repeat (first | exact Below.refl _ _ | assumption | apply b_alloc | apply b_drewN | apply b_drew))); have q2 : ∀ wq : World, Below W2.heap.size W2 wq → wq.cell? ⟨w2.heap.size, 0, none⟩ = some (.slice A0 s.nodes.length c0) ∧ wq.cell? ⟨w2.heap.size, 1, none⟩ = some (.slice A1 s.powers.length c1) ∧ wq.cell? ⟨w2.heap.size, 2, none⟩ = some (.slice A2 s.walls.length c2) ∧ wq.cell? ⟨w2.heap.size, 3, none⟩ = some (.int .i64 s.ex) ∧ wq.cell? ⟨w2.heap.size, 4, none⟩ = some (.int .i64 s.noise) ∧ wq.cell? ⟨w2.heap.size, 5, none⟩ = some (.int .i64 s.thr) ∧ wq.cell? ⟨w2.heap.size, 6, none⟩ = some (.slice A3 x.srcs.length c3) ∧ wq.cell? ⟨w2.heap.size, 7, none⟩ = some (.slice A4 x.fds.length c4) ∧ wq.cell? ⟨w2.heap.size, 8, none⟩ = some (.slice A5 l.length c5) ∧ wq.cell? ⟨w2.heap.size, 9, none⟩ = some (.func (.func 40) #[] #[.pointer (some ⟨W1.heap.size, 0, none⟩)]) := (fun wq hwr => ⟨cell_mono hwr (by rw [hW2]; go_simp), cell_mono hwr (by rw [hW2]; go_simp), cell_mono hwr (by rw [hW2]; go_simp), cell_mono hwr (by rw [hW2]; go_simp), cell_mono hwr (by rw [hW2]; go_simp), cell_mono hwr (by rw [hW2]; go_simp), cell_mono hwr (by rw [hW2]; go_simp), cell_mono hwr (by rw [hW2]; go_simp), cell_mono hwr (by rw [hW2]; go_simp), cell_mono hwr (by rw [hW2]; go_simp)⟩); have HX := Lib.hid hW2; clear hW2
  have hbz3 := b_then hbz2 hbA
  obtain ⟨la0, la1, la2, la3, la4, la5, la6, la7, la8, la9, la10, la11⟩ := q _ (b_then hb2 hbA)
  rw [HX.out] at la0 la8 la9 la10 la11
  by_cases he0 : airE s x l = 0
  rotate_left
  · have hRe : R = airE s x l := by rw [← HR.out, hearE, if_neg he0]
    obtain ⟨rfl, rfl⟩ := HBAD.out (by rw [hRe]; exact he0)
    rw [← hRe]
    rw [← hRe] at he0
    have g0 : (R == 0) = false := by simpa using he0
    have g1 : (R != 0) = true := by simpa using he0
    clear he0 hRe
    go_wp2
    go_ret3
    exact ⟨rfl, b_then hbz2 (b_alloc (Below.refl _ _) _)⟩
  have hsv := (valid_of he0).site
  have HE0 := Lib.hid he0
  rw [he0]
  clear he0
  by_cases hn : 0 ≤ yn ∧ yn < s.nodes.length
  rotate_left
  · have hRe : R = 7 := by
      rw [← HR.out, hearE, if_pos HE0.out, if_neg]
      simpa [inB] using hn
    subst hRe
    obtain ⟨rfl, rfl⟩ := HBAD.out (by decide)
    have HNN := Lib.hid hn
    clear hn
    go_wp2_with fail
    all_goals first
      | (go_ret3; exact ⟨rfl, b_then hbz2 (b_alloc (Below.refl _ _) _)⟩)
      | (exfalso; have := HNN.out; omega)
  obtain ⟨hn0, hn1⟩ := hn
  have g2 : decide (yn < 0) = false := by simp; omega
  have g3 : decide ((s.nodes.length : Int) ≤ yn) = false := by simp; omega
  have hin : inB s yn = true := by simp [inB, hn0, hn1]
  have HI := Lib.hid hin
  clear hin
  by_cases hc : (0 ≤ yc ∧ yc < 16) ∧ 0 ≤ yf ∧ yf ≤ yt ∧ yt ≤ 1099511627776
  rotate_left
  · have hRe : R = 2 := by
      rw [← HR.out, hearE, if_pos HE0.out, if_pos HI.out, if_neg]
      intro h
      simp only [chB, ivB, Bool.and_eq_true, decide_eq_true_eq] at h
      exact hc (by omega)
    subst hRe
    obtain ⟨rfl, rfl⟩ := HBAD.out (by decide)
    have HC := Lib.hid hc
    clear hc
    go_wp2_with fail
    all_goals first
      | (go_ret3; exact ⟨rfl, b_then hbz2 (b_alloc (Below.refl _ _) _)⟩)
      | (exfalso; have := HC.out; omega)
  obtain ⟨⟨c0', c1'⟩, c2', c3', c4'⟩ := hc
  have g4 : decide (yc < 0) = false := by simp; omega
  have g5 : decide (16 ≤ yc) = false := by simp; omega
  have g6 : decide (yf < 0) = false := by simp; omega
  have g7 : decide (yt < yf) = false := by simp; omega
  have g8 : decide (1099511627776 < yt) = false := by simp; omega
  have hRe : R = 0 := by
    rw [← HR.out, hearE, if_pos HE0.out, if_pos HI.out, if_pos]
    simp only [chB, ivB, Bool.and_eq_true, decide_eq_true_eq]
    omega
  have hNe : N = max (bestI s x l ⟨yn, yc, yf, yt⟩) 0 := by rw [← HN.out, hearN, if_pos (by rw [HR.out]; exact hRe)]
  have hGe : G = decide (0 ≤ bestI s x l ⟨yn, yc, yf, yt⟩) := by rw [← HG.out, heardB, if_pos (by rw [HR.out]; exact hRe)]
  subst hRe
  have HNe := Lib.hid hNe
  have HGe := Lib.hid hGe
  clear hNe hGe c0' c1' c2' c3' c4' hn0 hn1
  go_wp2_with fail
  rw [← HX.out]
  go_loopw [13, 14, 68] (fun b f i wr => ∃ k : Nat, k ≤ l.length ∧ i = .int .i64 k ∧ b = .int .i64 (max (bestTo (winP s x l ⟨yn, yc, yf, yt⟩) l k) 0) ∧ f = .bool (decide (0 ≤ bestTo (winP s x l ⟨yn, yc, yf, yt⟩) l k)) ∧ Below W2.heap.size W2 wr) (fun _ _ i _ => l.length - (intOf i).toNat)
  case atStart => exact ⟨0, Nat.zero_le _, rfl, rfl, rfl, Below.refl _ _⟩
  case round =>
    clear g2 g3 g4 g5 g6 g7 g8
    obtain ⟨k, hk, rfl, rfl, rfl, hbw⟩ := hrel
    by_cases hlt : k < l.length
    · have hg := emD_get hlt
      obtain ⟨e, he'⟩ : ∃ e, emD l k = e := ⟨_, rfl⟩
      rw [he'] at hg
      have HE' := Lib.hid he'
      obtain ⟨bl, off, hAe, e0, e1, e2, e3⟩ := hr5.em (b_then hbz3 hbw) hg
      subst hAe
      have hbn : Below wr.heap.size wr (wr.alloc (.cells #[.int .i64 e.node, .int .i64 e.ch, .int .i64 e.frm, .int .i64 e.to] 42)) := b_alloc (Below.refl _ _) _
      have hbn1 := b_then hbw hbn
      obtain ⟨m0, m1, m2, m3, m4, m5, m6, m7, m8, m9⟩ := q2 _ hbn1; have Lm0 := Later.cell m0; have Lm1 := Later.cell m1; have Lm2 := Later.cell m2; have Lm3 := Later.cell m3; have Lm4 := Later.cell m4; have Lm5 := Later.cell m5; have Lm6 := Later.cell m6; have Lm7 := Later.cell m7; have Lm8 := Later.cell m8; have Lm9 := Later.cell m9
      obtain ⟨n0, n1, n2, n3, n4, n5, n6, n7, n8, n9, n10, n11⟩ := q _ (b_then hb2 (b_then hbA hbn1)); have Ln0 := Later.cell n0; have Ln1 := Later.cell n1; have Ln2 := Later.cell n2; have Ln3 := Later.cell n3; have Ln4 := Later.cell n4; have Ln5 := Later.cell n5; have Ln6 := Later.cell n6; have Ln7 := Later.cell n7; have Ln8 := Later.cell n8; have Ln9 := Later.cell n9; have Ln10 := Later.cell n10; have Ln11 := Later.cell n11
      have N0 := Later.cell (box_at (Below.refl _ (wr.alloc (.cells #[.int .i64 e.node, .int .i64 e.ch, .int .i64 e.frm, .int .i64 e.to] 42))) rfl 0 rfl)
      have N1 := Later.cell (box_at (Below.refl _ (wr.alloc (.cells #[.int .i64 e.node, .int .i64 e.ch, .int .i64 e.frm, .int .i64 e.to] 42))) rfl 1 rfl)
      have N2 := Later.cell (box_at (Below.refl _ (wr.alloc (.cells #[.int .i64 e.node, .int .i64 e.ch, .int .i64 e.frm, .int .i64 e.to] 42))) rfl 2 rfl)
      have N3 := Later.cell (box_at (Below.refl _ (wr.alloc (.cells #[.int .i64 e.node, .int .i64 e.ch, .int .i64 e.frm, .int .i64 e.to] 42))) rfl 3 rfl)
      have k0 : (0 : Int) ≤ (k : Int) := by omega
      have k1 : (k : Int) < (l.length : Int) := by omega
      rcases best_spec (winP s x l ⟨yn, yc, yf, yt⟩) l k with ⟨hb, _⟩ | ⟨b, hb, hbk, _, _⟩
      · have HBT := Lib.hid hb
        rw [hb]
        clear hb
        have z0 : max (-1 : Int) 0 = 0 := by decide
        have z1 : decide ((0 : Int) ≤ -1) = false := by decide
        rw [z0, z1]
        by_cases q1 : e.ch = yc
        rotate_left
        · have g1 : (e.ch != yc) = true := by simpa using q1
          have g1' : (e.ch == yc) = false := by simpa using q1
          have hst : bestTo (winP s x l ⟨yn, yc, yf, yt⟩) l (k + 1) = bestTo (winP s x l ⟨yn, yc, yf, yt⟩) l k := best_stay (.inl (by simp [winP, inWin, he', q1]))
          have HST := Lib.hid hst
          clear hst
          clear q1
          go_wp2_with fail
          refine wp_region_later (by kernel_rfl) (by kernel_rfl) ?_
          repeat (go_big_quiet_step (fail))
          refine wpQuiet_nil ?_
          rintro _ ⟨zz, rfl⟩
          have hbz := b_then hbn1 zz.below
          go_wp2
          go_roundw
          case rel => exact ⟨k + 1, by omega, by go_num, by rw [HST.out, HBT.out, z0], by rw [HST.out, HBT.out, z1], hbz⟩
          case measure => simp [intOf]; omega
        have g1 : (e.ch != yc) = false := by simpa using q1
        have g1' : (e.ch == yc) = true := by simpa using q1
        by_cases q2 : yf ≤ e.frm
        rotate_left
        · have g2 : decide (e.frm < yf) = true := by simp; omega
          have hst : bestTo (winP s x l ⟨yn, yc, yf, yt⟩) l (k + 1) = bestTo (winP s x l ⟨yn, yc, yf, yt⟩) l k := best_stay (.inl (by simp [winP, inWin, he', q2]))
          have HST := Lib.hid hst
          clear hst
          clear q1 q2
          go_wp2_with fail
          refine wp_region_later (by kernel_rfl) (by kernel_rfl) ?_
          repeat (go_big_quiet_step (fail))
          refine wpQuiet_nil ?_
          rintro _ ⟨zz, rfl⟩
          have hbz := b_then hbn1 zz.below
          go_wp2
          go_roundw
          case rel => exact ⟨k + 1, by omega, by go_num, by rw [HST.out, HBT.out, z0], by rw [HST.out, HBT.out, z1], hbz⟩
          case measure => simp [intOf]; omega
        have g2 : decide (e.frm < yf) = false := by simp; omega
        by_cases q3 : e.frm ≤ yt
        rotate_left
        · have g3 : decide (yt < e.frm) = true := by simp; omega
          have hst : bestTo (winP s x l ⟨yn, yc, yf, yt⟩) l (k + 1) = bestTo (winP s x l ⟨yn, yc, yf, yt⟩) l k := best_stay (.inl (by simp [winP, inWin, he', q3]))
          have HST := Lib.hid hst
          clear hst
          clear q1 q2 q3
          go_wp2_with fail
          refine wp_region_later (by kernel_rfl) (by kernel_rfl) ?_
          repeat (go_big_quiet_step (fail))
          refine wpQuiet_nil ?_
          rintro _ ⟨zz, rfl⟩
          have hbz := b_then hbn1 zz.below
          go_wp2
          go_roundw
          case rel => exact ⟨k + 1, by omega, by go_num, by rw [HST.out, HBT.out, z0], by rw [HST.out, HBT.out, z1], hbz⟩
          case measure => simp [intOf]; omega
        have g3 : decide (yt < e.frm) = false := by simp; omega
        have hin : inWin ⟨yn, yc, yf, yt⟩ e = true := by simp [inWin, q1, q2, q3]
        have HIN := Lib.hid hin
        clear hin q1 q2 q3
        clear he'
        go_wp2_with fail
        refine wp_region_later (by kernel_rfl) (by kernel_rfl) ?_
        repeat (go_big_quiet_step (fail))
        refine wpQuiet_nil ?_
        rintro _ ⟨zz, rfl⟩
        have hbz := b_then hbn1 zz.below
        try clear m0 m1 m2 m3 m4 m5 m6 m7 m8 m9
        obtain ⟨r0, r1, r2, r3, r4, r5, r6, r7, r8, r9⟩ := q2 _ hbz
        try clear n0 n1 n2 n3 n4 n5 n6 n7 n8 n9 n10 n11
        obtain ⟨o0, o1, o2, o3, o4, o5, o6, o7, o8, o9, o10, o11⟩ := q _ (b_then hb2 (b_then hbA hbz))
        go_wp2_with fail
        refine (aReceived0 s x l k yn _ _ hsv hlt (HSC.out.mono (b_then hbA hbz))).mono ?_
        rintro e5 w5 ⟨rfl, hb5⟩
        rcases Bool.eq_false_or_eq_true (recvB s x l k yn) with rc | rc
        · have hst : bestTo (winP s x l ⟨yn, yc, yf, yt⟩) l (k + 1) = k := best_take (by simp [winP, HE'.out, HIN.out, rc]) (.inl (by rw [HBT.out]; decide))
          rw [rc]
          have HST := Lib.hid hst
          clear hst rc
          go_wp2
          go_roundw
          case rel => exact ⟨k + 1, by omega, by go_num, by rw [HST.out]; congr 1; omega, by rw [HST.out]; simp, b_then hbz hb5⟩
          case measure => simp [intOf]; omega
        · rw [rc]
          have hw : winP s x l ⟨yn, yc, yf, yt⟩ k = false := by simp [winP, rc]
          have hst : bestTo (winP s x l ⟨yn, yc, yf, yt⟩) l (k + 1) = bestTo (winP s x l ⟨yn, yc, yf, yt⟩) l k := best_stay (.inl hw)
          have HST := Lib.hid hst
          clear hst
          clear rc hw
          go_wp2
          go_roundw
          case rel => exact ⟨k + 1, by omega, by go_num, by rw [HST.out, HBT.out, z0], by rw [HST.out, HBT.out, z1], b_then hbz hb5⟩
          case measure => simp [intOf]; omega
      · have HBT := Lib.hid hb
        rw [hb]
        have z0 : max (b : Int) 0 = b := by omega
        have z1 : decide ((0 : Int) ≤ (b : Int)) = true := by simp
        rw [z0, z1]
        have b0 : (0 : Int) ≤ (b : Int) := by omega
        have b1 : (b : Int) < (l.length : Int) := by omega
        have hgb := emD_get (l := l) (i := b) (by omega)
        obtain ⟨eb, heb⟩ : ∃ eb, emD l b = eb := ⟨_, rfl⟩
        rw [heb] at hgb
        obtain ⟨_, _, hAe, f0, f1, f2, f3⟩ := hr5.em (b_then hbz3 hbn1) hgb
        cases hAe
        have F2 := Later.cell f2
        by_cases q1 : e.ch = yc
        rotate_left
        · have g1 : (e.ch != yc) = true := by simpa using q1
          have g1' : (e.ch == yc) = false := by simpa using q1
          have hst : bestTo (winP s x l ⟨yn, yc, yf, yt⟩) l (k + 1) = bestTo (winP s x l ⟨yn, yc, yf, yt⟩) l k := best_stay (.inl (by simp [winP, inWin, he', q1]))
          have HST := Lib.hid hst
          clear hst
          clear q1
          go_wp2_with fail
          refine wp_region_later (by kernel_rfl) (by kernel_rfl) ?_
          repeat (go_big_quiet_step (fail))
          refine wpQuiet_nil ?_
          rintro _ ⟨zz, rfl⟩
          have hbz := b_then hbn1 zz.below
          go_wp2
          go_roundw
          case rel => exact ⟨k + 1, by omega, by go_num, by rw [HST.out, HBT.out, z0], by rw [HST.out, HBT.out, z1], hbz⟩
          case measure => simp [intOf]; omega
        have g1 : (e.ch != yc) = false := by simpa using q1
        have g1' : (e.ch == yc) = true := by simpa using q1
        by_cases q2 : yf ≤ e.frm
        rotate_left
        · have g2 : decide (e.frm < yf) = true := by simp; omega
          have hst : bestTo (winP s x l ⟨yn, yc, yf, yt⟩) l (k + 1) = bestTo (winP s x l ⟨yn, yc, yf, yt⟩) l k := best_stay (.inl (by simp [winP, inWin, he', q2]))
          have HST := Lib.hid hst
          clear hst
          clear q1 q2
          go_wp2_with fail
          refine wp_region_later (by kernel_rfl) (by kernel_rfl) ?_
          repeat (go_big_quiet_step (fail))
          refine wpQuiet_nil ?_
          rintro _ ⟨zz, rfl⟩
          have hbz := b_then hbn1 zz.below
          go_wp2
          go_roundw
          case rel => exact ⟨k + 1, by omega, by go_num, by rw [HST.out, HBT.out, z0], by rw [HST.out, HBT.out, z1], hbz⟩
          case measure => simp [intOf]; omega
        have g2 : decide (e.frm < yf) = false := by simp; omega
        by_cases q3 : e.frm ≤ yt
        rotate_left
        · have g3 : decide (yt < e.frm) = true := by simp; omega
          have hst : bestTo (winP s x l ⟨yn, yc, yf, yt⟩) l (k + 1) = bestTo (winP s x l ⟨yn, yc, yf, yt⟩) l k := best_stay (.inl (by simp [winP, inWin, he', q3]))
          have HST := Lib.hid hst
          clear hst
          clear q1 q2 q3
          go_wp2_with fail
          refine wp_region_later (by kernel_rfl) (by kernel_rfl) ?_
          repeat (go_big_quiet_step (fail))
          refine wpQuiet_nil ?_
          rintro _ ⟨zz, rfl⟩
          have hbz := b_then hbn1 zz.below
          go_wp2
          go_roundw
          case rel => exact ⟨k + 1, by omega, by go_num, by rw [HST.out, HBT.out, z0], by rw [HST.out, HBT.out, z1], hbz⟩
          case measure => simp [intOf]; omega
        have g3 : decide (yt < e.frm) = false := by simp; omega
        have hin : inWin ⟨yn, yc, yf, yt⟩ e = true := by simp [inWin, q1, q2, q3]
        have HIN := Lib.hid hin
        clear hin q1 q2 q3
        by_cases q4 : e.frm < eb.frm
        · have g4 : decide (eb.frm ≤ e.frm) = false := by simp; omega
          have hnew : (emD l k).frm < (emD l (bestTo (winP s x l ⟨yn, yc, yf, yt⟩) l k).toNat).frm := by
            rw [hb, show ((b : Int)).toNat = b by omega, he', heb]; exact q4
          have HNEW := Lib.hid hnew
          clear he' heb hb q4 hnew
          go_wp2_with fail
          refine wp_region_later (by kernel_rfl) (by kernel_rfl) ?_
          repeat (go_big_quiet_step (fail))
          refine wpQuiet_nil ?_
          rintro _ ⟨zz, rfl⟩
          have hbz := b_then hbn1 zz.below
          try clear m0 m1 m2 m3 m4 m5 m6 m7 m8 m9
          obtain ⟨r0, r1, r2, r3, r4, r5, r6, r7, r8, r9⟩ := q2 _ hbz
          try clear n0 n1 n2 n3 n4 n5 n6 n7 n8 n9 n10 n11
          obtain ⟨o0, o1, o2, o3, o4, o5, o6, o7, o8, o9, o10, o11⟩ := q _ (b_then hb2 (b_then hbA hbz))
          go_wp2_with fail
          refine (aReceived0 s x l k yn _ _ hsv hlt (HSC.out.mono (b_then hbA hbz))).mono ?_
          rintro e5 w5 ⟨rfl, hb5⟩
          rcases Bool.eq_false_or_eq_true (recvB s x l k yn) with rc | rc
          · have hst : bestTo (winP s x l ⟨yn, yc, yf, yt⟩) l (k + 1) = k := best_take (by simp [winP, HE'.out, HIN.out, rc]) (.inr HNEW.out)
            rw [rc]
            have HST := Lib.hid hst
            clear hst rc
            go_wp2
            go_roundw
            case rel => exact ⟨k + 1, by omega, by go_num, by rw [HST.out]; congr 1; omega, by rw [HST.out]; simp, b_then hbz hb5⟩
            case measure => simp [intOf]; omega
          · rw [rc]
            have hw : winP s x l ⟨yn, yc, yf, yt⟩ k = false := by simp [winP, rc]
            have hst : bestTo (winP s x l ⟨yn, yc, yf, yt⟩) l (k + 1) = bestTo (winP s x l ⟨yn, yc, yf, yt⟩) l k := best_stay (.inl hw)
            have HST := Lib.hid hst
            clear hst
            clear rc hw
            go_wp2
            go_roundw
            case rel => exact ⟨k + 1, by omega, by go_num, by rw [HST.out, HBT.out, z0], by rw [HST.out, HBT.out, z1], b_then hbz hb5⟩
            case measure => simp [intOf]; omega
        · have g4 : decide (eb.frm ≤ e.frm) = true := by simp; omega
          have hst : bestTo (winP s x l ⟨yn, yc, yf, yt⟩) l (k + 1) = bestTo (winP s x l ⟨yn, yc, yf, yt⟩) l k := best_stay (.inr (by rw [hb, show ((b : Int)).toNat = b by omega, he', heb]; omega))
          have HST := Lib.hid hst
          clear hst
          clear he' heb hb q4
          go_wp2_with fail
          refine wp_region_later (by kernel_rfl) (by kernel_rfl) ?_
          repeat (go_big_quiet_step (fail))
          refine wpQuiet_nil ?_
          rintro _ ⟨zz, rfl⟩
          have hbz := b_then hbn1 zz.below
          go_wp2
          go_roundw
          case rel => exact ⟨k + 1, by omega, by go_num, by rw [HST.out, HBT.out, z0], by rw [HST.out, HBT.out, z1], hbz⟩
          case measure => simp [intOf]; omega
    · obtain rfl : k = l.length := by omega
      go_wp2
      go_ret3
      exact ⟨by rw [HNe.out, HGe.out]; rfl, b_then hbz3 hbw⟩
end Go.Proofs.YtpbhoeaadnemhaaGreat
