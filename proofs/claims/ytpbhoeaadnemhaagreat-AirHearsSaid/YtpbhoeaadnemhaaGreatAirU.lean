/- The reference: what is heard. -/
import Derived.Test.YtpbhoeaadnemhaaGreatAirT
import Derived.Test.YtpbhoeaadnemhaaGreatMG
import Derived.OwnWalk
namespace Go.Proofs.YtpbhoeaadnemhaaGreat
open Go.RowKit Go.Shelf
attribute [local go_sem high] max2_mx min2_mn max_two min_two
set_option linter.unusedVariables false
set_option linter.unusedSimpArgs false
set_option maxHeartbeats 4000000
set_option maxRecDepth 100000
theorem r07ReceivedE {s : Site} {x : Spm} {l : List Em} {i node : Int} {v xv lv : Value} {w : World} {c : Bool} (hs : SiteV w v s) (hx : SpmV w xv x) (hl : SlV 4 KEm w lv l) (hE : chkE s x l i node = 0) (hc : rcvN s x l i node = c) :
    Calls Tryz.prog 16 #[v, xv, lv, .int .i64 i, .int .i64 node] w fun e w' => e = .returned (.tuple #[.bool c, .int .i64 0]) ∧ Below w.heap.size w w' := by
  have := r07Received s x l i node v xv lv w hs hx hl
  rwa [hE, hc] at this
theorem r06ChV' (n : Int) (w : World) {b : Bool} (h : chB n = b) : Calls Tryz.prog 24 #[.int .i64 n] w fun e w' => e = .returned (.bool b) ∧ w = w' := h ▸ r06Channel n w
theorem r07Hear (s : Site) (x : Spm) (l : List Em) (y : Lis) (v xv lv : Value) (w : World) (hs : SiteV w v s) (hx : SpmV w xv x) (hl : SlV 4 KEm w lv l) :
    Calls Tryz.prog 9 #[v, xv, lv, .agg #[.int .i64 y.node, .int .i64 y.ch, .int .i64 y.frm, .int .i64 y.to]] w fun e w' => e = .returned (.tuple #[.int .i64 (hearN s x l y), .bool (heardB s x l y), .int .i64 (hearE s x l y)]) ∧ Below w.heap.size w w' := by
  have hu := Tryz.underlying26
  have hu2 := Tryz.underlying30
  have hu3 := Tryz.underlying42
  have hu5 := Tryz.underlying35
  obtain ⟨yn, yc, yf, yt⟩ := y
  dsimp only
  obtain ⟨R, hR⟩ : ∃ R, hearE s x l ⟨yn, yc, yf, yt⟩ = R := ⟨_, rfl⟩
  obtain ⟨N, hN⟩ : ∃ N, hearN s x l ⟨yn, yc, yf, yt⟩ = N := ⟨_, rfl⟩
  obtain ⟨G, hG⟩ : ∃ G, heardB s x l ⟨yn, yc, yf, yt⟩ = G := ⟨_, rfl⟩
  rw [hR, hN, hG]
  have HR := Lib.hid hR
  have HN := Lib.hid hN
  have HG := Lib.hid hG
  have hbad : R ≠ 0 → N = 0 ∧ G = false := fun h => ⟨by rw [← hN, hearN, if_neg (by rw [hR]; exact h)], by rw [← hG, heardB, if_neg (by rw [hR]; exact h)]⟩
  have HBAD := Lib.hid hbad
  clear hR hN hG hbad
  have hs' := Lib.hid hs
  obtain ⟨v0, v1, v2, rfl, h0, h1, h2⟩ := hs
  obtain ⟨A0, c0, rfl, hc0, hm0, hr0⟩ := h0
  obtain ⟨A1, c1, rfl, hc1, hm1, hr1⟩ := h1
  obtain ⟨A2, c2, rfl, hc2, hm2, hr2⟩ := h2
  unfold big at hm0 hm1 hm2
  have hx' := Lib.hid hx
  obtain ⟨x0, x1, rfl, h3, h4⟩ := hx
  have H3 := Lib.hid h3
  have H4 := Lib.hid h4
  obtain ⟨A3, c3, rfl, hc3, hm3, hr3⟩ := h3
  obtain ⟨A4, c4, rfl, hc4, hm4, hr4⟩ := h4
  unfold big at hm3 hm4
  have hl' := Lib.hid hl
  obtain ⟨A5, c5, rfl, hc5, hm5, hr5⟩ := hl
  unfold big at hm5
  obtain ⟨W1, hW1⟩ : ∃ W : World, W = (((w.alloc (.cells #[.slice A0 s.nodes.length c0, .slice A1 s.powers.length c1, .slice A2 s.walls.length c2, .int .i64 s.ex, .int .i64 s.noise, .int .i64 s.thr] 26)).alloc (.cells #[.slice A3 x.srcs.length c3, .slice A4 x.fds.length c4] 30)).alloc (.cells #[.int .i64 yn, .int .i64 yc, .int .i64 yf, .int .i64 yt] 35)) := ⟨_, rfl⟩; have hb1 : Below w.heap.size w W1 := (by rw [hW1]; (repeat (first | exact Below.refl _ _ | assumption | apply b_alloc | apply b_drewN | apply b_drew))); have q : ∀ wq : World, Below W1.heap.size W1 wq → wq.cell? ⟨w.heap.size, 0, none⟩ = some (.slice A0 s.nodes.length c0) ∧ wq.cell? ⟨w.heap.size, 1, none⟩ = some (.slice A1 s.powers.length c1) ∧ wq.cell? ⟨w.heap.size, 2, none⟩ = some (.slice A2 s.walls.length c2) ∧ wq.cell? ⟨w.heap.size, 3, none⟩ = some (.int .i64 s.ex) ∧ wq.cell? ⟨w.heap.size, 4, none⟩ = some (.int .i64 s.noise) ∧ wq.cell? ⟨w.heap.size, 5, none⟩ = some (.int .i64 s.thr) ∧ wq.cell? ⟨w.heap.size + 1, 0, none⟩ = some (.slice A3 x.srcs.length c3) ∧ wq.cell? ⟨w.heap.size + 1, 1, none⟩ = some (.slice A4 x.fds.length c4) ∧ wq.cell? ⟨w.heap.size + 1 + 1, 0, none⟩ = some (.int .i64 yn) ∧ wq.cell? ⟨w.heap.size + 1 + 1, 1, none⟩ = some (.int .i64 yc) ∧ wq.cell? ⟨w.heap.size + 1 + 1, 2, none⟩ = some (.int .i64 yf) ∧ wq.cell? ⟨w.heap.size + 1 + 1, 3, none⟩ = some (.int .i64 yt) := (fun wq hwr => ⟨cell_mono hwr (by rw [hW1]; go_simp), cell_mono hwr (by rw [hW1]; go_simp), cell_mono hwr (by rw [hW1]; go_simp), cell_mono hwr (by rw [hW1]; go_simp), cell_mono hwr (by rw [hW1]; go_simp), cell_mono hwr (by rw [hW1]; go_simp), cell_mono hwr (by rw [hW1]; go_simp), cell_mono hwr (by rw [hW1]; go_simp), cell_mono hwr (by rw [hW1]; go_simp), cell_mono hwr (by rw [hW1]; go_simp), cell_mono hwr (by rw [hW1]; go_simp), cell_mono hwr (by rw [hW1]; go_simp)⟩); have HW := Lib.hid hW1; clear hW1
  go_enter Tryz.func9, Tryz.ntmps9
  go_wp2_with fail
  rw [← HW.out]
  have hbA1 : Below W1.heap.size W1 W1 := Below.refl _ _
  refine (r07Check s x l _ _ _ _ (hs'.out.mono hb1) (hx'.out.mono hb1) (hl'.out.mono KEm.st hb1)).mono ?_
  rintro e w2 ⟨rfl, hbA2⟩
  have hbz2 := b_then hb1 hbA2
  obtain ⟨l20, l21, l22, l23, l24, l25, l26, l27, l28, l29, l210, l211⟩ := q _ hbA2
  by_cases he0 : airE s x l = 0
  rotate_left
  · have hRe : R = airE s x l := by rw [← HR.out, hearE, if_neg he0]
    obtain ⟨rfl, rfl⟩ := HBAD.out (by rw [hRe]; exact he0)
    rw [← hRe]
    rw [← hRe] at he0
    have g0 : (R == 0) = false := by simpa using he0
    have g1 : (R != 0) = true := by simpa using he0
    clear he0 hRe
    go_wp2
    go_ret3
    exact ⟨rfl, hbz2⟩
  have HE0 := Lib.hid he0
  rw [he0]
  clear he0
  by_cases hn : 0 ≤ yn ∧ yn < s.nodes.length
  rotate_left
  · have hRe : R = 7 := by
      rw [← HR.out, hearE, if_pos HE0.out, if_neg]
      simpa [inB] using hn
    subst hRe
    obtain ⟨rfl, rfl⟩ := HBAD.out (by decide)
    have HNN := Lib.hid hn
    clear hn
    go_wp2_with fail
    all_goals first
      | (go_ret3; exact ⟨rfl, hbz2⟩)
      | (exfalso; have := HNN.out; omega)
  obtain ⟨hn0, hn1⟩ := hn
  have g2 : decide (yn < 0) = false := by simp; omega
  have g3 : decide ((s.nodes.length : Int) ≤ yn) = false := by simp; omega
  have hin : inB s yn = true := by simp [inB, hn0, hn1]
  have HI := Lib.hid hin
  clear hin
  go_wp2_with fail
  refine (r06Channel yc _).mono ?_
  rintro e3 w3 ⟨rfl, rfl⟩
  rcases Bool.eq_false_or_eq_true (chB yc) with c1 | c1
  rotate_left
  · have hRe : R = 2 := by rw [← HR.out, hearE, if_pos HE0.out, if_pos HI.out, c1]; rfl
    subst hRe
    obtain ⟨rfl, rfl⟩ := HBAD.out (by decide)
    rw [c1]
    clear c1
    go_wp2
    go_ret3
    exact ⟨rfl, hbz2⟩
  rw [c1]
  have HC1 := Lib.hid c1
  clear c1
  go_wp2_with fail
  refine (r06Interval yf yt _).mono ?_
  rintro e3 w3 ⟨rfl, rfl⟩
  rcases Bool.eq_false_or_eq_true (ivB yf yt) with c2 | c2
  rotate_left
  · have hRe : R = 2 := by rw [← HR.out, hearE, if_pos HE0.out, if_pos HI.out, HC1.out, c2]; rfl
    subst hRe
    obtain ⟨rfl, rfl⟩ := HBAD.out (by decide)
    rw [c2]
    clear c2
    go_wp2
    go_ret3
    exact ⟨rfl, hbz2⟩
  rw [c2]
  have hRe : R = 0 := by rw [← HR.out, hearE, if_pos HE0.out, if_pos HI.out, HC1.out, c2]; rfl
  have hNe : N = max (bestI s x l ⟨yn, yc, yf, yt⟩) 0 := by rw [← HN.out, hearN, if_pos (by rw [HR.out]; exact hRe)]
  have hGe : G = decide (0 ≤ bestI s x l ⟨yn, yc, yf, yt⟩) := by rw [← HG.out, heardB, if_pos (by rw [HR.out]; exact hRe)]
  subst hRe
  have HNe := Lib.hid hNe
  have HGe := Lib.hid hGe
  have hrc : ∀ k : Nat, k < l.length → chkE s x l (k : Int) yn = 0 ∧ rcvN s x l (k : Int) yn = recvB s x l k yn := fun k hk => by
    have h1 : chkE s x l (k : Int) yn = 0 := by
      rw [chkE, if_pos HE0.out, if_pos]
      rw [Bool.and_eq_true]
      exact ⟨by simp [ixB, hk], HI.out⟩
    exact ⟨h1, by rw [rcvN, if_pos h1, Int.toNat_natCast]⟩
  have HRC := Lib.hid hrc
  clear hNe hGe hn0 hn1 c2 hrc g2 g3
  have hbA3 : Below W1.heap.size W1 w2 := hbA2
  have hbz3 : Below w.heap.size w w2 := hbz2
  go_wp2_with fail
  try clear l20 l21 l22 l23 l24 l25 l26 l27 l28 l29 l210 l211
  go_loopw [12, 13] (fun b i wr => ∃ k : Nat, k ≤ l.length ∧ i = .int .i64 k ∧ b = .int .i64 (bestTo (winP s x l ⟨yn, yc, yf, yt⟩) l k) ∧ Below w2.heap.size w2 wr) (fun _ i _ => l.length - (intOf i).toNat)
  case atStart => exact ⟨0, Nat.zero_le _, rfl, rfl, Below.refl _ _⟩
  case round =>
    obtain ⟨k, hk, rfl, rfl, hbw⟩ := hrel
    by_cases hlt : k < l.length
    · have hg := emD_get hlt
      obtain ⟨e, he'⟩ : ∃ e, emD l k = e := ⟨_, rfl⟩
      rw [he'] at hg
      have HE' := Lib.hid he'
      obtain ⟨bl, off, hAe, e0, e1, e2, e3⟩ := hr5.em (b_then hbz3 hbw) hg
      subst hAe
      have N1 := Later.cell e1
      have N2 := Later.cell e2
      obtain ⟨n0, n1, n2, n3, n4, n5, n6, n7, n8, n9, n10, n11⟩ := q _ (b_then hbA3 hbw); have Ln0 := Later.cell n0; have Ln1 := Later.cell n1; have Ln2 := Later.cell n2; have Ln3 := Later.cell n3; have Ln4 := Later.cell n4; have Ln5 := Later.cell n5; have Ln6 := Later.cell n6; have Ln7 := Later.cell n7; have Ln8 := Later.cell n8; have Ln9 := Later.cell n9; have Ln10 := Later.cell n10; have Ln11 := Later.cell n11
      have k0 : (0 : Int) ≤ (k : Int) := by omega
      have k1 : (k : Int) < (l.length : Int) := by omega
      rcases best_spec (winP s x l ⟨yn, yc, yf, yt⟩) l k with ⟨hb, _⟩ | ⟨b, hb, hbk, _, _⟩
      · have HBT := Lib.hid hb
        rw [hb]
        clear hb he'
        have z1 : decide ((0 : Int) ≤ -1) = false := by decide
        by_cases q1 : e.ch = yc
        rotate_left
        · have g1 : (e.ch != yc) = true := by simpa using q1
          have g1' : (e.ch == yc) = false := by simpa using q1
          have hst : bestTo (winP s x l ⟨yn, yc, yf, yt⟩) l (k + 1) = bestTo (winP s x l ⟨yn, yc, yf, yt⟩) l k := best_stay (.inl (by simp [winP, inWin, HE'.out, q1]))
          have HST := Lib.hid hst
          clear hst
          clear q1
          go_wp2_with fail
          refine wp_region_later (by kernel_rfl) (by kernel_rfl) ?_
          repeat (go_big_quiet_step (fail))
          refine wpQuiet_nil ?_
          rintro _ ⟨zz, rfl⟩
          have hbz := b_then hbw zz.below
          go_wp2
          go_roundw
          case rel => exact ⟨k + 1, by omega, by go_num, by rw [HST.out, HBT.out], hbz⟩
          case measure => simp [intOf]; omega
        have g1 : (e.ch != yc) = false := by simpa using q1
        have g1' : (e.ch == yc) = true := by simpa using q1
        by_cases q2 : yf ≤ e.frm
        rotate_left
        · have g2 : decide (e.frm < yf) = true := by simp; omega
          have hst : bestTo (winP s x l ⟨yn, yc, yf, yt⟩) l (k + 1) = bestTo (winP s x l ⟨yn, yc, yf, yt⟩) l k := best_stay (.inl (by simp [winP, inWin, HE'.out, q2]))
          have HST := Lib.hid hst
          clear hst
          clear q1 q2
          go_wp2_with fail
          refine wp_region_later (by kernel_rfl) (by kernel_rfl) ?_
          repeat (go_big_quiet_step (fail))
          refine wpQuiet_nil ?_
          rintro _ ⟨zz, rfl⟩
          have hbz := b_then hbw zz.below
          go_wp2
          go_roundw
          case rel => exact ⟨k + 1, by omega, by go_num, by rw [HST.out, HBT.out], hbz⟩
          case measure => simp [intOf]; omega
        have g2 : decide (e.frm < yf) = false := by simp; omega
        by_cases q3 : e.frm ≤ yt
        rotate_left
        · have g3 : decide (yt < e.frm) = true := by simp; omega
          have hst : bestTo (winP s x l ⟨yn, yc, yf, yt⟩) l (k + 1) = bestTo (winP s x l ⟨yn, yc, yf, yt⟩) l k := best_stay (.inl (by simp [winP, inWin, HE'.out, q3]))
          have HST := Lib.hid hst
          clear hst
          clear q1 q2 q3
          go_wp2_with fail
          refine wp_region_later (by kernel_rfl) (by kernel_rfl) ?_
          repeat (go_big_quiet_step (fail))
          refine wpQuiet_nil ?_
          rintro _ ⟨zz, rfl⟩
          have hbz := b_then hbw zz.below
          go_wp2
          go_roundw
          case rel => exact ⟨k + 1, by omega, by go_num, by rw [HST.out, HBT.out], hbz⟩
          case measure => simp [intOf]; omega
        have g3 : decide (yt < e.frm) = false := by simp; omega
        have hin : inWin ⟨yn, yc, yf, yt⟩ e = true := by simp [inWin, q1, q2, q3]
        have HIN := Lib.hid hin
        clear hin q1 q2 q3
        go_wp2_with fail
        refine wp_region_later (by kernel_rfl) (by kernel_rfl) ?_
        repeat (go_big_quiet_step (fail))
        refine wpQuiet_nil ?_
        rintro _ ⟨zz, rfl⟩
        have hbz := b_then hbw zz.below
        try clear n0 n1 n2 n3 n4 n5 n6 n7 n8 n9 n10 n11
        obtain ⟨o0, o1, o2, o3, o4, o5, o6, o7, o8, o9, o10, o11⟩ := q _ (b_then hbA3 hbz)
        have hbzz := b_then hbz3 hbz
        go_wp2_with fail
        refine (r07ReceivedE (hs'.out.mono hbzz) (hx'.out.mono hbzz) (hl'.out.mono KEm.st hbzz) (HRC.out k hlt).1 (HRC.out k hlt).2).mono ?_
        rintro e5 w5 ⟨rfl, hb5⟩
        rcases Bool.eq_false_or_eq_true (recvB s x l k yn) with rc | rc
        · have hst : bestTo (winP s x l ⟨yn, yc, yf, yt⟩) l (k + 1) = k := best_take (by simp [winP, HE'.out, HIN.out, rc]) (.inl (by rw [HBT.out]; decide))
          rw [rc]
          have HST := Lib.hid hst
          clear hst rc
          go_wp2
          go_roundw
          case rel => exact ⟨k + 1, by omega, by go_num, by rw [HST.out], b_then hbz hb5⟩
          case measure => simp [intOf]; omega
        · rw [rc]
          have hw : winP s x l ⟨yn, yc, yf, yt⟩ k = false := by simp [winP, rc]
          have hst : bestTo (winP s x l ⟨yn, yc, yf, yt⟩) l (k + 1) = bestTo (winP s x l ⟨yn, yc, yf, yt⟩) l k := best_stay (.inl hw)
          have HST := Lib.hid hst
          clear hst
          clear rc hw
          go_wp2
          go_roundw
          case rel => exact ⟨k + 1, by omega, by go_num, by rw [HST.out, HBT.out], b_then hbz hb5⟩
          case measure => simp [intOf]; omega
      · have HBT := Lib.hid hb
        have z1 : decide ((0 : Int) ≤ (b : Int)) = true := by simp
        have b0 : (0 : Int) ≤ (b : Int) := by omega
        have b1 : (b : Int) < (l.length : Int) := by omega
        have hgb := emD_get (l := l) (i := b) (by omega)
        obtain ⟨eb, heb⟩ : ∃ eb, emD l b = eb := ⟨_, rfl⟩
        rw [heb] at hgb
        obtain ⟨_, _, hAe, f0, f1, f2, f3⟩ := hr5.em (b_then hbz3 hbw) hgb
        cases hAe
        have F2 := Later.cell f2
        have HEB := Lib.hid heb
        rw [hb]
        clear hb heb he' hgb
        by_cases q1 : e.ch = yc
        rotate_left
        · have g1 : (e.ch != yc) = true := by simpa using q1
          have g1' : (e.ch == yc) = false := by simpa using q1
          have hst : bestTo (winP s x l ⟨yn, yc, yf, yt⟩) l (k + 1) = bestTo (winP s x l ⟨yn, yc, yf, yt⟩) l k := best_stay (.inl (by simp [winP, inWin, HE'.out, q1]))
          have HST := Lib.hid hst
          clear hst
          clear q1
          go_wp2_with fail
          refine wp_region_later (by kernel_rfl) (by kernel_rfl) ?_
          repeat (go_big_quiet_step (fail))
          refine wpQuiet_nil ?_
          rintro _ ⟨zz, rfl⟩
          have hbz := b_then hbw zz.below
          go_wp2
          go_roundw
          case rel => exact ⟨k + 1, by omega, by go_num, by rw [HST.out, HBT.out], hbz⟩
          case measure => simp [intOf]; omega
        have g1 : (e.ch != yc) = false := by simpa using q1
        have g1' : (e.ch == yc) = true := by simpa using q1
        by_cases q2 : yf ≤ e.frm
        rotate_left
        · have g2 : decide (e.frm < yf) = true := by simp; omega
          have hst : bestTo (winP s x l ⟨yn, yc, yf, yt⟩) l (k + 1) = bestTo (winP s x l ⟨yn, yc, yf, yt⟩) l k := best_stay (.inl (by simp [winP, inWin, HE'.out, q2]))
          have HST := Lib.hid hst
          clear hst
          clear q1 q2
          go_wp2_with fail
          refine wp_region_later (by kernel_rfl) (by kernel_rfl) ?_
          repeat (go_big_quiet_step (fail))
          refine wpQuiet_nil ?_
          rintro _ ⟨zz, rfl⟩
          have hbz := b_then hbw zz.below
          go_wp2
          go_roundw
          case rel => exact ⟨k + 1, by omega, by go_num, by rw [HST.out, HBT.out], hbz⟩
          case measure => simp [intOf]; omega
        have g2 : decide (e.frm < yf) = false := by simp; omega
        by_cases q3 : e.frm ≤ yt
        rotate_left
        · have g3 : decide (yt < e.frm) = true := by simp; omega
          have hst : bestTo (winP s x l ⟨yn, yc, yf, yt⟩) l (k + 1) = bestTo (winP s x l ⟨yn, yc, yf, yt⟩) l k := best_stay (.inl (by simp [winP, inWin, HE'.out, q3]))
          have HST := Lib.hid hst
          clear hst
          clear q1 q2 q3
          go_wp2_with fail
          refine wp_region_later (by kernel_rfl) (by kernel_rfl) ?_
          repeat (go_big_quiet_step (fail))
          refine wpQuiet_nil ?_
          rintro _ ⟨zz, rfl⟩
          have hbz := b_then hbw zz.below
          go_wp2
          go_roundw
          case rel => exact ⟨k + 1, by omega, by go_num, by rw [HST.out, HBT.out], hbz⟩
          case measure => simp [intOf]; omega
        have g3 : decide (yt < e.frm) = false := by simp; omega
        have hin : inWin ⟨yn, yc, yf, yt⟩ e = true := by simp [inWin, q1, q2, q3]
        have HIN := Lib.hid hin
        clear hin q1 q2 q3
        by_cases q4 : eb.frm ≤ e.frm
        · have g4 : decide (eb.frm ≤ e.frm) = true := by simpa using q4
          have hst : bestTo (winP s x l ⟨yn, yc, yf, yt⟩) l (k + 1) = bestTo (winP s x l ⟨yn, yc, yf, yt⟩) l k := best_stay (.inr (by rw [HBT.out, show ((b : Int)).toNat = b by omega, HE'.out, HEB.out]; omega))
          have HST := Lib.hid hst
          clear hst
          clear q4
          go_wp2_with fail
          refine wp_region_later (by kernel_rfl) (by kernel_rfl) ?_
          repeat (go_big_quiet_step (fail))
          refine wpQuiet_nil ?_
          rintro _ ⟨zz, rfl⟩
          have hbz := b_then hbw zz.below
          go_wp2
          go_roundw
          case rel => exact ⟨k + 1, by omega, by go_num, by rw [HST.out, HBT.out], hbz⟩
          case measure => simp [intOf]; omega
        · have g4 : decide (eb.frm ≤ e.frm) = false := by simpa using q4
          have hnew : (emD l k).frm < (emD l (bestTo (winP s x l ⟨yn, yc, yf, yt⟩) l k).toNat).frm := by
            rw [HBT.out, show ((b : Int)).toNat = b by omega, HE'.out, HEB.out]; omega
          have HNEW := Lib.hid hnew
          clear q4 hnew
          go_wp2_with fail
          refine wp_region_later (by kernel_rfl) (by kernel_rfl) ?_
          repeat (go_big_quiet_step (fail))
          refine wpQuiet_nil ?_
          rintro _ ⟨zz, rfl⟩
          have hbz := b_then hbw zz.below
          try clear n0 n1 n2 n3 n4 n5 n6 n7 n8 n9 n10 n11
          obtain ⟨o0, o1, o2, o3, o4, o5, o6, o7, o8, o9, o10, o11⟩ := q _ (b_then hbA3 hbz)
          have hbzz := b_then hbz3 hbz
          go_wp2_with fail
          refine (r07ReceivedE (hs'.out.mono hbzz) (hx'.out.mono hbzz) (hl'.out.mono KEm.st hbzz) (HRC.out k hlt).1 (HRC.out k hlt).2).mono ?_
          rintro e5 w5 ⟨rfl, hb5⟩
          rcases Bool.eq_false_or_eq_true (recvB s x l k yn) with rc | rc
          · have hst : bestTo (winP s x l ⟨yn, yc, yf, yt⟩) l (k + 1) = k := best_take (by simp [winP, HE'.out, HIN.out, rc]) (.inr HNEW.out)
            rw [rc]
            have HST := Lib.hid hst
            clear hst rc
            go_wp2
            go_roundw
            case rel => exact ⟨k + 1, by omega, by go_num, by rw [HST.out], b_then hbz hb5⟩
            case measure => simp [intOf]; omega
          · rw [rc]
            have hw : winP s x l ⟨yn, yc, yf, yt⟩ k = false := by simp [winP, rc]
            have hst : bestTo (winP s x l ⟨yn, yc, yf, yt⟩) l (k + 1) = bestTo (winP s x l ⟨yn, yc, yf, yt⟩) l k := best_stay (.inl hw)
            have HST := Lib.hid hst
            clear hst
            clear rc hw
            go_wp2
            go_roundw
            case rel => exact ⟨k + 1, by omega, by go_num, by rw [HST.out, HBT.out], b_then hbz hb5⟩
            case measure => simp [intOf]; omega
    · obtain rfl : k = l.length := by omega
      go_wp2
      go_ret3
      exact ⟨by rw [HNe.out, HGe.out]; rfl, b_then hbz3 hbw⟩
end Go.Proofs.YtpbhoeaadnemhaaGreat
