/- The reference's check of a list of emissions. -/
import Derived.Test.YtpbhoeaadnemhaaGreatMB
import Derived.Test.YtpbhoeaadnemhaaGreatMC
import Derived.Test.YtpbhoeaadnemhaaGreatM3
namespace Go.Proofs.YtpbhoeaadnemhaaGreat
open Go.RowKit
attribute [local go_sem high] max2_mx min2_mn max_two min_two
set_option linter.unusedVariables false
set_option linter.unusedSimpArgs false
set_option maxHeartbeats 4000000
set_option maxRecDepth 100000
theorem r06ChV (n : Int) (w : World) {b : Bool} (h : chB n = b) : Calls Tryz.prog 24 #[.int .i64 n] w fun e w' => e = .returned (.bool b) ∧ w = w' := h ▸ r06Channel n w
theorem r06IvV (a b : Int) (w : World) {c : Bool} (h : ivB a b = c) : Calls Tryz.prog 25 #[.int .i64 a, .int .i64 b] w fun e w' => e = .returned (.bool c) ∧ w = w' := h ▸ r06Interval a b w
theorem r07OverlapV (a b : Em) (w : World) {c : Bool} (h : overB a b = c) : Calls Tryz.prog 45 #[.agg #[.int .i64 a.node, .int .i64 a.ch, .int .i64 a.frm, .int .i64 a.to], .agg #[.int .i64 b.node, .int .i64 b.ch, .int .i64 b.frm, .int .i64 b.to]] w fun e w' => e = .returned (.bool c) ∧ Below w.heap.size w w' := h ▸ r07Overlap a b w
theorem r07Check (s : Site) (x : Spm) (l : List Em) (v xv lv : Value) (w : World) (hs : SiteV w v s) (hx : SpmV w xv x) (hl : SlV 4 KEm w lv l) :
    Calls Tryz.prog 23 #[v, xv, lv] w fun e w' => e = .returned (.int .i64 (airE s x l)) ∧ Below w.heap.size w w' := by
  have hu := Tryz.underlying26
  have hu2 := Tryz.underlying30
  have hu3 := Tryz.underlying42
  have hs' := Lib.hid hs
  obtain ⟨v0, v1, v2, rfl, h0, h1, h2⟩ := hs
  obtain ⟨A0, c0, rfl, hc0, hm0, hr0⟩ := h0
  obtain ⟨A1, c1, rfl, hc1, hm1, hr1⟩ := h1
  obtain ⟨A2, c2, rfl, hc2, hm2, hr2⟩ := h2
  unfold big at hm0 hm1 hm2
  have hx' := Lib.hid hx
  obtain ⟨x0, x1, rfl, h3, h4⟩ := hx
  have H3 := Lib.hid h3
  have H4 := Lib.hid h4
  obtain ⟨A3, c3, rfl, hc3, hm3, hr3⟩ := h3
  obtain ⟨A4, c4, rfl, hc4, hm4, hr4⟩ := h4
  unfold big at hm3 hm4
  obtain ⟨A5, c5, rfl, hc5, hm5, hr5⟩ := hl
  unfold big at hm5
  obtain ⟨R, hR⟩ : ∃ R, airE s x l = R := ⟨_, rfl⟩
  rw [hR]
  have HR := Lib.hid hR
  clear hR
  obtain ⟨W1, hW1⟩ : ∃ W : World, W = ((w.alloc (.cells #[.slice A0 s.nodes.length c0, .slice A1 s.powers.length c1, .slice A2 s.walls.length c2, .int .i64 s.ex, .int .i64 s.noise, .int .i64 s.thr] 26)).alloc (.cells #[.slice A3 x.srcs.length c3, .slice A4 x.fds.length c4] 30)) := ⟨_, rfl⟩; have hb1 : Below w.heap.size w W1 := (by rw [hW1]; (repeat (first | exact Below.refl _ _ | assumption | apply b_alloc | apply b_drewN | apply b_drew))); have q : ∀ wq : World, Below W1.heap.size W1 wq → wq.cell? ⟨w.heap.size, 0, none⟩ = some (.slice A0 s.nodes.length c0) ∧ wq.cell? ⟨w.heap.size, 1, none⟩ = some (.slice A1 s.powers.length c1) ∧ wq.cell? ⟨w.heap.size, 2, none⟩ = some (.slice A2 s.walls.length c2) ∧ wq.cell? ⟨w.heap.size, 3, none⟩ = some (.int .i64 s.ex) ∧ wq.cell? ⟨w.heap.size, 4, none⟩ = some (.int .i64 s.noise) ∧ wq.cell? ⟨w.heap.size, 5, none⟩ = some (.int .i64 s.thr) ∧ wq.cell? ⟨w.heap.size + 1, 0, none⟩ = some (.slice A3 x.srcs.length c3) ∧ wq.cell? ⟨w.heap.size + 1, 1, none⟩ = some (.slice A4 x.fds.length c4) := (fun wq hwr => ⟨cell_mono hwr (by rw [hW1]; go_simp), cell_mono hwr (by rw [hW1]; go_simp), cell_mono hwr (by rw [hW1]; go_simp), cell_mono hwr (by rw [hW1]; go_simp), cell_mono hwr (by rw [hW1]; go_simp), cell_mono hwr (by rw [hW1]; go_simp), cell_mono hwr (by rw [hW1]; go_simp), cell_mono hwr (by rw [hW1]; go_simp)⟩); have HW := Lib.hid hW1; clear hW1
  go_enter Tryz.func23, Tryz.ntmps23
  go_wp2_with fail
  rw [← HW.out]
  have hbA1 : Below W1.heap.size W1 W1 := Below.refl _ _
  refine (r05Check s _ _ (hs'.out.mono hb1)).mono ?_
  rintro e w2 ⟨rfl, hbA2⟩
  have hbz2 := b_then hb1 hbA2
  obtain ⟨l20, l21, l22, l23, l24, l25, l26, l27⟩ := q _ hbA2
  rcases Bool.eq_false_or_eq_true (siteB s) with z | z
  rotate_left
  · rw [z, okN_false]
    have hRe : R = 1 := by rw [← HR.out]; simp [airE, z]
    subst hRe
    go_wp2
    go_ret
    exact ⟨rfl, hbz2⟩
  rw [z, okN_true]
  have Q := Lib.hid z
  clear z
  go_wp2_with fail
  refine (r06Check x _ _ (hx'.out.mono hbz2)).mono ?_
  rintro e w3 ⟨rfl, hb3⟩
  have hbA3 := b_then hbA2 hb3
  have hbz3 := b_then hb1 hbA3
  try clear l20 l21 l22 l23 l24 l25 l26 l27
  obtain ⟨l30, l31, l32, l33, l34, l35, l36, l37⟩ := q _ hbA3
  rcases Bool.eq_false_or_eq_true (spmB x) with z | z
  rotate_left
  · rw [z, okN_false]
    have hRe : R = 1 := by rw [← HR.out]; simp [airE, z]
    subst hRe
    go_wp2
    go_ret
    exact ⟨rfl, hbz3⟩
  rw [z, okN_true]
  have Q1 := Lib.hid z
  clear z
  by_cases h48 : l.length ≤ 48
  rotate_left
  · have g : decide (48 < (l.length : Int)) = true := by simp; omega
    have hRe : R = 8 := by rw [← HR.out]; simp only [airE, Q.out, Q1.out, if_neg h48]; rfl
    subst hRe
    clear h48
    go_wp2
    go_ret
    exact ⟨rfl, hbz3⟩
  have g : decide (48 < (l.length : Int)) = false := by simp; omega
  have hRe : R = emsE s l l.length := by rw [← HR.out]; simp only [airE, Q.out, Q1.out, if_pos h48]; rfl
  have HRe := Lib.hid hRe
  clear hRe
  go_wp2_with fail
  go_loopw [7] (fun i wr => ∃ k : Nat, k ≤ l.length ∧ i = .int .i64 k ∧ emsE s l k = 0 ∧ Below W1.heap.size W1 wr) (fun i _ => l.length - (intOf i).toNat)
  case atStart => exact ⟨0, Nat.zero_le _, rfl, rfl, hbA3⟩
  case round =>
    obtain ⟨k, hk, rfl, hz, hbw⟩ := hrel
    have HZ := Lib.hid hz
    clear hz
    by_cases hlt : k < l.length
    · obtain ⟨e, he⟩ : ∃ e, l[k]? = some e := ⟨_, List.getElem?_eq_getElem hlt⟩
      obtain ⟨b, off, hAe, e0, e1, e2, e3⟩ := hr5.em (b_then hb1 hbw) he
      subst hAe
      have hsu := ems_succ HZ.out he
      have hst : ∀ n, emE s l k e = n → n ≠ 0 → R = n := fun n h1 h2 => by
        rw [HRe.out, ems_stay (k := k + 1) (by rw [hsu, h1]; exact h2) _ (by omega), hsu, h1]
      have HSU := Lib.hid hsu
      have HST := Lib.hid hst
      have HEK := Lib.hid he
      clear he hsu hst
      obtain ⟨m0, m1, m2, m3, m4, m5, m6, m7⟩ := q _ hbw; have Lm0 := Later.cell m0; have Lm1 := Later.cell m1; have Lm2 := Later.cell m2; have Lm3 := Later.cell m3; have Lm4 := Later.cell m4; have Lm5 := Later.cell m5; have Lm6 := Later.cell m6; have Lm7 := Later.cell m7
      have E0 := Later.cell e0
      have E1 := Later.cell e1
      have E2 := Later.cell e2
      have E3 := Later.cell e3
      have i0 : (0 : Int) ≤ (k : Int) := by omega
      have i1 : (k : Int) < (l.length : Int) := by omega
      have hbzw := b_then hb1 hbw
      by_cases hn : 0 ≤ e.node
      rotate_left
      · have hR7 : R = 7 := HST.out 7 (by simp only [emE]; rw [if_neg]; simp; omega) (by decide)
        subst hR7
        have g1 : decide (e.node < 0) = true := by simp; omega
        clear hn
        go_wp2_with fail
        refine wp_region_later (by kernel_rfl) (by kernel_rfl) ?_
        repeat (go_big_quiet_step (fail))
        refine wpQuiet_nil ?_
        rintro _ ⟨z, rfl⟩
        go_wp2
        go_ret
        exact ⟨rfl, b_then hbzw z.below⟩
      have g1 : decide (e.node < 0) = false := by simp; omega
      by_cases hn2 : e.node < s.nodes.length
      rotate_left
      · have hR7 : R = 7 := HST.out 7 (by simp only [emE]; rw [if_neg]; simp; omega) (by decide)
        subst hR7
        have g2 : decide ((s.nodes.length : Int) ≤ e.node) = true := by simp; omega
        clear hn hn2
        go_wp2_with fail
        refine wp_region_later (by kernel_rfl) (by kernel_rfl) ?_
        repeat (go_big_quiet_step (fail))
        refine wpQuiet_nil ?_
        rintro _ ⟨z, rfl⟩
        go_wp2
        go_ret
        exact ⟨rfl, b_then hbzw z.below⟩
      have g2 : decide ((s.nodes.length : Int) ≤ e.node) = false := by simp; omega
      have hnB : (decide (0 ≤ e.node) && decide (e.node < s.nodes.length)) = true := by simp [hn, hn2]
      have HNB := Lib.hid hnB
      clear hnB hn hn2
      go_wp2_with fail
      refine wp_region_later (by kernel_rfl) (by kernel_rfl) ?_
      repeat (go_big_quiet_step (fail))
      refine wpQuiet_nil ?_
      rintro wz ⟨⟨_, hwz⟩, he⟩
      simp only at he
      subst he
      have hbwz := b_then hbw hwz
      have hbzz := b_then hb1 hbwz
      have E0 := Later.cell (cell_mono hwz e0)
      have E1 := Later.cell (cell_mono hwz e1)
      have E2 := Later.cell (cell_mono hwz e2)
      have E3 := Later.cell (cell_mono hwz e3)
      rcases Bool.eq_false_or_eq_true (chB e.ch) with c1' | c1'
      rotate_left
      · have hR2 : R = 2 := HST.out 2 (by simp only [emE, HNB.out, emB, c1']; rfl) (by decide)
        subst hR2
        go_wp2_with fail
        refine wp_region_later (by kernel_rfl) (by kernel_rfl) ?_
        repeat (go_big_quiet_step ((first | (go_at_call 24; exact later_same (r06ChV _ _ (by with_reducible assumption))) | (go_at_call 25; exact later_same (r06IvV _ _ _ (by with_reducible assumption))))))
        refine wpQuiet_nil ?_
        rintro _ ⟨z, rfl⟩
        go_wp2
        go_ret
        exact ⟨rfl, b_then hbzz z.below⟩
      rcases Bool.eq_false_or_eq_true (ivB e.frm e.to) with c2' | c2'
      rotate_left
      · have hR2 : R = 2 := HST.out 2 (by simp only [emE, HNB.out, emB, c1', c2']; rfl) (by decide)
        subst hR2
        go_wp2_with fail
        refine wp_region_later (by kernel_rfl) (by kernel_rfl) ?_
        repeat (go_big_quiet_step ((first | (go_at_call 24; exact later_same (r06ChV _ _ (by with_reducible assumption))) | (go_at_call 25; exact later_same (r06IvV _ _ _ (by with_reducible assumption))))))
        refine wpQuiet_nil ?_
        rintro _ ⟨z, rfl⟩
        go_wp2
        go_ret
        exact ⟨rfl, b_then hbzz z.below⟩
      by_cases hne : e.frm = e.to
      · have hR2 : R = 2 := HST.out 2 (by simp only [emE, HNB.out, emB, c1', c2', hne]; simp) (by decide)
        subst hR2
        have g3 : (e.frm == e.to) = true := by simpa using hne
        have HNE := Lib.hid hne
        clear hne
        go_wp2_with fail
        refine wp_region_later (by kernel_rfl) (by kernel_rfl) ?_
        repeat (go_big_quiet_step ((first | (go_at_call 24; exact later_same (r06ChV _ _ (by with_reducible assumption))) | (go_at_call 25; exact later_same (r06IvV _ _ _ (by with_reducible assumption))))))
        refine wpQuiet_nil ?_
        rintro _ ⟨z, rfl⟩
        go_wp2
        go_ret
        exact ⟨rfl, b_then hbzz z.below⟩
      have g3 : (e.frm == e.to) = false := by simpa using hne
      have hemB : emB e = true := by simp [emB, c1', c2', hne]
      have HEM := Lib.hid hemB
      clear hemB hne
      go_wp2_with fail
      refine wp_region_later (by kernel_rfl) (by kernel_rfl) ?_
      repeat (go_big_quiet_step ((first | (go_at_call 24; exact later_same (r06ChV _ _ (by with_reducible assumption))) | (go_at_call 25; exact later_same (r06IvV _ _ _ (by with_reducible assumption))))))
      refine wpQuiet_nil ?_
      rintro wy ⟨⟨_, hwy⟩, he⟩
      simp only at he
      subst he
      have hbwy := b_then hbwz hwy
      go_wp2_with fail
      go_loopw [8] (fun i wi => ∃ j : Nat, j ≤ k ∧ i = .int .i64 j ∧ allTo (fun y => !(decide (y.node = e.node) && overB e y)) l j ∧ Below W1.heap.size W1 wi) (fun i _ => k - (intOf i).toNat)
      case atStart => exact ⟨0, Nat.zero_le _, rfl, allTo.zero _ _, hbwy⟩
      case round =>
        obtain ⟨j, hj, rfl, ha, hbi⟩ := hrel
        have HA := Lib.hid ha
        clear ha E0 E1 E2 E3
        by_cases hlj : j < k
        · obtain ⟨y, hy⟩ : ∃ y, l[j]? = some y := ⟨_, List.getElem?_eq_getElem (by omega)⟩
          have hbiz := b_then hb1 hbi
          obtain ⟨_, _, hAe, f0, f1, f2, f3⟩ := hr5.em hbiz hy
          cases hAe
          obtain ⟨_, _, hAe, d0, d1, d2, d3⟩ := hr5.em hbiz HEK.out
          cases hAe
          have F0 := Later.cell f0
          have F1 := Later.cell f1
          have F2 := Later.cell f2
          have F3 := Later.cell f3
          have D0 := Later.cell d0
          have D1 := Later.cell d1
          have D2 := Later.cell d2
          have D3 := Later.cell d3
          have j0 : (0 : Int) ≤ (j : Int) := by omega
          have j1 : (j : Int) < (l.length : Int) := by omega
          have HY := Lib.hid hy
          clear hy
          by_cases hne2 : y.node = e.node
          · have n1 : (y.node == e.node) = true := by simpa using hne2
            rcases Bool.eq_false_or_eq_true (overB y e) with ho | ho
            · have hR16 : R = 16 := HST.out 16 (by
                simp only [emE, HNB.out, HEM.out, if_true]
                rw [if_pos]
                rw [List.any_eq_true]
                exact ⟨y, List.mem_of_getElem? (by rw [List.getElem?_take_of_lt hlj]; exact HY.out), by rw [over_comm] at ho; simp [hne2, ho]⟩) (by decide)
              subst hR16
              clear hne2
              go_wp2_with fail
              refine wp_region_later (by kernel_rfl) (by kernel_rfl) ?_
              repeat (go_big_quiet_step ((go_at_call 45; exact later_of (r07OverlapV _ _ _ (by with_reducible assumption)))))
              refine wpQuiet_nil ?_
              rintro _ ⟨z, rfl⟩
              go_wp2
              go_ret
              exact ⟨rfl, b_then hbiz z.below⟩
            · have HO := Lib.hid ho
              clear hne2
              go_wp2_with fail
              refine wp_region_later (by kernel_rfl) (by kernel_rfl) ?_
              repeat (go_big_quiet_step ((go_at_call 45; exact later_of (r07OverlapV _ _ _ (by with_reducible assumption)))))
              refine wpQuiet_nil ?_
              rintro _ ⟨z, rfl⟩
              clear ho
              go_wp2
              go_roundw
              case rel => exact ⟨j + 1, by omega, by go_num, HA.out.succ HY.out (by have := HO.out; rw [over_comm] at this; simp [this]), b_then hbi z.below⟩
              case measure => simp [intOf]; omega
          · have n1 : (y.node == e.node) = false := by simpa using hne2
            have HNE := Lib.hid hne2
            clear hne2
            go_wp2_with fail
            refine wp_region_later (by kernel_rfl) (by kernel_rfl) ?_
            repeat (go_big_quiet_step (fail))
            refine wpQuiet_nil ?_
            rintro _ ⟨z, rfl⟩
            go_wp2
            go_roundw
            case rel => exact ⟨j + 1, by omega, by go_num, HA.out.succ HY.out (by simp [HNE.out]), b_then hbi z.below⟩
            case measure => simp [intOf]; omega
        · obtain rfl : j = k := by omega
          go_wp2
          go_roundw
          case rel =>
            refine ⟨j + 1, by omega, by go_num, ?_, hbi⟩
            rw [HSU.out]
            simp only [emE, HNB.out, HEM.out, if_true]
            rw [if_neg]
            rw [List.any_eq_true]
            rintro ⟨y, hy, hc⟩
            obtain ⟨i, hi, rfl⟩ := List.mem_iff_getElem.1 hy
            have hi2 : i < j := by simp at hi; omega
            have := HA.out i _ hi2 (by rw [List.getElem?_eq_getElem (by omega)])
            rw [List.getElem_take] at hc
            dsimp only at this
            rw [hc] at this
            cases this
          case measure => simp [intOf]; omega
    · obtain rfl : k = l.length := by omega
      have hR0 : R = 0 := HRe.out.trans HZ.out
      subst hR0
      go_wp2
      go_ret
      exact ⟨rfl, b_then hb1 hbw⟩
end Go.Proofs.YtpbhoeaadnemhaaGreat
