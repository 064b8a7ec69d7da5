/- The program's check of a list of emissions. The margin, the decision of a scene, scenes; the walks of power.Margin, build, check. -/
import Derived.Test.YtpbhoeaadnemhaaGreatMB
import Derived.Test.YtpbhoeaadnemhaaGreatM5
import Derived.Deep.RegionHeld3
import Derived.Laws.ResultCell
import Derived.Laws.EntriesVeiled
namespace Go.Proofs.YtpbhoeaadnemhaaGreat
open Go.RowKit
attribute [local go_sem high] max2_mx min2_mn max_two min_two
set_option linter.unusedVariables false
set_option linter.unusedSimpArgs false
set_option maxHeartbeats 4000000
set_option maxRecDepth 100000
theorem aCheck (s : Site) (x : Spm) (l : List Em) (v xv lv : Value) (w : World) (hs : SiteV w v s) (hx : SpmV w xv x) (hl : SlV 4 KEm w lv l) :
    Calls Tryz.prog 42 #[v, xv, lv] w fun e w' => e = .returned (.int .i64 (airE s x l)) ∧ Below w.heap.size w w' := by
  have hu := Tryz.underlying26
  have hu2 := Tryz.underlying30
  have hu3 := Tryz.underlying42
  have hs' := Lib.hid hs
  obtain ⟨v0, v1, v2, rfl, h0, h1, h2⟩ := hs
  obtain ⟨A0, c0, rfl, hc0, hm0, hr0⟩ := h0
  obtain ⟨A1, c1, rfl, hc1, hm1, hr1⟩ := h1
  obtain ⟨A2, c2, rfl, hc2, hm2, hr2⟩ := h2
  unfold big at hm0 hm1 hm2
  have hx' := Lib.hid hx
  obtain ⟨x0, x1, rfl, h3, h4⟩ := hx
  have H3 := Lib.hid h3
  have H4 := Lib.hid h4
  obtain ⟨A3, c3, rfl, hc3, hm3, hr3⟩ := h3
  obtain ⟨A4, c4, rfl, hc4, hm4, hr4⟩ := h4
  unfold big at hm3 hm4
  obtain ⟨A5, c5, rfl, hc5, hm5, hr5⟩ := hl
  unfold big at hm5
  obtain ⟨R, hR⟩ : ∃ R, airE s x l = R := ⟨_, rfl⟩
  rw [hR]
  have HR := Lib.hid hR
  clear hR
  obtain ⟨W1, hW1⟩ : ∃ W : World, W = ((w.alloc (.cells #[.slice A0 s.nodes.length c0, .slice A1 s.powers.length c1, .slice A2 s.walls.length c2, .int .i64 s.ex, .int .i64 s.noise, .int .i64 s.thr] 26)).alloc (.cells #[.slice A3 x.srcs.length c3, .slice A4 x.fds.length c4] 30)) := ⟨_, rfl⟩; have hb1 : Below w.heap.size w W1 := (by rw [hW1]; (repeat (first | exact Below.refl _ _ | assumption | apply b_alloc | apply b_drewN | apply b_drew))); have q : ∀ wq : World, Below W1.heap.size W1 wq → wq.cell? ⟨w.heap.size, 0, none⟩ = some (.slice A0 s.nodes.length c0) ∧ wq.cell? ⟨w.heap.size, 1, none⟩ = some (.slice A1 s.powers.length c1) ∧ wq.cell? ⟨w.heap.size, 2, none⟩ = some (.slice A2 s.walls.length c2) ∧ wq.cell? ⟨w.heap.size, 3, none⟩ = some (.int .i64 s.ex) ∧ wq.cell? ⟨w.heap.size, 4, none⟩ = some (.int .i64 s.noise) ∧ wq.cell? ⟨w.heap.size, 5, none⟩ = some (.int .i64 s.thr) ∧ wq.cell? ⟨w.heap.size + 1, 0, none⟩ = some (.slice A3 x.srcs.length c3) ∧ wq.cell? ⟨w.heap.size + 1, 1, none⟩ = some (.slice A4 x.fds.length c4) := (fun wq hwr => ⟨cell_mono hwr (by rw [hW1]; go_simp), cell_mono hwr (by rw [hW1]; go_simp), cell_mono hwr (by rw [hW1]; go_simp), cell_mono hwr (by rw [hW1]; go_simp), cell_mono hwr (by rw [hW1]; go_simp), cell_mono hwr (by rw [hW1]; go_simp), cell_mono hwr (by rw [hW1]; go_simp), cell_mono hwr (by rw [hW1]; go_simp)⟩); have HW := Lib.hid hW1; clear hW1
  go_enter Tryz.func42, Tryz.ntmps42
  go_wp2_with fail
  rw [← HW.out]
  have hbA1 : Below W1.heap.size W1 W1 := Below.refl _ _
  refine (gCheck s _ _ (hs'.out.mono hb1)).mono ?_
  rintro e w2 ⟨rfl, hbA2⟩
  have hbz2 := b_then hb1 hbA2
  obtain ⟨l20, l21, l22, l23, l24, l25, l26, l27⟩ := q _ hbA2
  rcases Bool.eq_false_or_eq_true (siteB s) with z | z
  rotate_left
  · rw [z, okN_false]
    have hRe : R = 1 := by rw [← HR.out]; simp [airE, z]
    subst hRe
    go_wp2
    go_ret
    exact ⟨rfl, hbz2⟩
  rw [z, okN_true]
  have Q := Lib.hid z
  clear z
  go_wp2_with fail
  refine (sCheck x _ _ (hx'.out.mono hbz2)).mono ?_
  rintro e w3 ⟨rfl, hb3⟩
  have hbA3 := b_then hbA2 hb3
  have hbz3 := b_then hb1 hbA3
  try clear l20 l21 l22 l23 l24 l25 l26 l27
  obtain ⟨l30, l31, l32, l33, l34, l35, l36, l37⟩ := q _ hbA3
  rcases Bool.eq_false_or_eq_true (spmB x) with z | z
  rotate_left
  · rw [z, okN_false]
    have hRe : R = 1 := by rw [← HR.out]; simp [airE, z]
    subst hRe
    go_wp2
    go_ret
    exact ⟨rfl, hbz3⟩
  rw [z, okN_true]
  have Q1 := Lib.hid z
  clear z
  by_cases h48 : l.length ≤ 48
  rotate_left
  · have g : decide (48 < (l.length : Int)) = true := by simp; omega
    have hRe : R = 8 := by rw [← HR.out]; simp only [airE, Q.out, Q1.out, if_neg h48]; rfl
    subst hRe
    clear h48
    go_wp2
    go_ret
    exact ⟨rfl, hbz3⟩
  have g : decide (48 < (l.length : Int)) = false := by simp; omega
  have hRe : R = emsE s l l.length := by rw [← HR.out]; simp only [airE, Q.out, Q1.out, if_pos h48]; rfl
  have HRe := Lib.hid hRe
  clear hRe
  go_wp2_with fail
  go_loopw [26] (fun i wr => ∃ k : Nat, k ≤ l.length ∧ i = .int .i64 k ∧ emsE s l k = 0 ∧ Below W1.heap.size W1 wr) (fun i _ => l.length - (intOf i).toNat)
  case atStart => exact ⟨0, Nat.zero_le _, rfl, rfl, hbA3⟩
  case round =>
    obtain ⟨k, hk, rfl, hz, hbw⟩ := hrel
    have HZ := Lib.hid hz
    clear hz
    by_cases hlt : k < l.length
    · obtain ⟨e, he⟩ : ∃ e, l[k]? = some e := ⟨_, List.getElem?_eq_getElem hlt⟩
      obtain ⟨b, off, hAe, e0, e1, e2, e3⟩ := hr5.em (b_then hb1 hbw) he
      subst hAe
      have hsu := ems_succ HZ.out he
      have hst : ∀ n, emE s l k e = n → n ≠ 0 → R = n := fun n h1 h2 => by
        rw [HRe.out, ems_stay (k := k + 1) (by rw [hsu, h1]; exact h2) _ (by omega), hsu, h1]
      have HSU := Lib.hid hsu
      have HST := Lib.hid hst
      clear he hsu hst
      have hbn : Below W1.heap.size W1 (wr.alloc (.cells #[.int .i64 e.node, .int .i64 e.ch, .int .i64 e.frm, .int .i64 e.to] 42)) := b_alloc hbw _
      obtain ⟨m0, m1, m2, m3, m4, m5, m6, m7⟩ := q _ hbn
      have hbzn := b_then hb1 hbn
      by_cases hn : 0 ≤ e.node ∧ e.node < s.nodes.length
      rotate_left
      · have hR7 : R = 7 := HST.out 7 (by simp only [emE]; rw [if_neg]; simp; omega) (by decide)
        subst hR7
        have HN := Lib.hid hn
        clear hn
        go_wp2_with fail
        all_goals first
          | (go_ret; exact ⟨rfl, hbzn⟩)
          | (exfalso; have := HN.out; omega)
      obtain ⟨hn0, hn1⟩ := hn
      have hnB : (decide (0 ≤ e.node) && decide (e.node < s.nodes.length)) = true := by simp [hn0, hn1]
      have HNB := Lib.hid hnB
      clear hnB
      by_cases hv : (0 ≤ e.ch ∧ e.ch < 16) ∧ 0 ≤ e.frm ∧ e.frm < e.to ∧ e.to ≤ 1099511627776
      rotate_left
      · have hemB : emB e = false := by rw [Bool.eq_false_iff]; intro h; apply hv; simp [emB, chB, ivB] at h; omega
        have hR2 : R = 2 := HST.out 2 (by simp only [emE, HNB.out, hemB]; rfl) (by decide)
        subst hR2
        have HV := Lib.hid hv
        clear hv hemB
        go_wp2_with fail
        all_goals first
          | (go_ret; exact ⟨rfl, hbzn⟩)
          | (exfalso; have := HV.out; omega)
      obtain ⟨⟨v0', v1'⟩, v2', v3', v4'⟩ := hv
      have hemB : emB e = true := by simp [emB, chB, ivB]; omega
      have HEM := Lib.hid hemB
      clear hemB
      have k0 : (0 : Int) ≤ (k : Int) := by omega
      have k1 : (k : Int) ≤ (c5 : Int) := by omega
      have k2 : (k : Int) ≤ (l.length : Int) := by omega
      go_wp2_with fail
      go_loopw [73] (fun i wi => ∃ j : Nat, j ≤ k ∧ i = .int .i64 j ∧ allTo (fun y => !(decide (y.node = e.node) && overB e y)) l j ∧ Below (wr.alloc (.cells #[.int .i64 e.node, .int .i64 e.ch, .int .i64 e.frm, .int .i64 e.to] 42)).heap.size (wr.alloc (.cells #[.int .i64 e.node, .int .i64 e.ch, .int .i64 e.frm, .int .i64 e.to] 42)) wi) (fun i _ => k - (intOf i).toNat)
      case atStart => exact ⟨0, Nat.zero_le _, rfl, allTo.zero _ _, Below.refl _ _⟩
      case round =>
        rename_i wi
        obtain ⟨j, hj, rfl, ha, hbi⟩ := hrel
        have HA := Lib.hid ha
        clear ha
        by_cases hlj : j < k
        · obtain ⟨y, hy⟩ : ∃ y, l[j]? = some y := ⟨_, List.getElem?_eq_getElem (by omega)⟩
          obtain ⟨_, _, hAe, f0, f1, f2, f3⟩ := hr5.em (b_then hbzn hbi) hy
          cases hAe
          have t0 := box_at hbi rfl 0 rfl
          have hbj := b_then hbi (b_alloc (Below.refl _ _) (.cells #[.int .i64 y.node, .int .i64 y.ch, .int .i64 y.frm, .int .i64 y.to] 42))
          have s0 := box_at hbj rfl 0 rfl
          have s1 := box_at hbj rfl 1 rfl
          have s2 := box_at hbj rfl 2 rfl
          have s3 := box_at hbj rfl 3 rfl
          have HY := Lib.hid hy
          clear hy
          by_cases hne : y.node = e.node
          · have g1 : (y.node == e.node) = true := by simpa using hne
            have HNE := Lib.hid hne
            clear hne
            go_wp2_with fail
            refine (aOverlap e y _).mono ?_
            rintro e' w4 ⟨rfl, hb4⟩
            rcases Bool.eq_false_or_eq_true (overB e y) with ho | ho
            · rw [ho]
              have hR16 : R = 16 := HST.out 16 (by
                simp only [emE, HNB.out, HEM.out, if_true]
                rw [if_pos]
                rw [List.any_eq_true]
                exact ⟨y, List.mem_of_getElem? (by rw [List.getElem?_take_of_lt hlj]; exact HY.out), by simp [HNE.out, ho]⟩) (by decide)
              subst hR16
              go_wp2
              go_ret
              exact ⟨rfl, b_then hbzn (b_then hbj hb4)⟩
            · rw [ho]
              go_wp2
              go_roundw
              case rel => exact ⟨j + 1, by omega, by go_num, HA.out.succ HY.out (by simp [ho]), b_then hbj hb4⟩
              case measure => simp [intOf]; omega
          · have g1 : (y.node == e.node) = false := by simpa using hne
            have HNE := Lib.hid hne
            clear hne
            go_wp2
            go_roundw
            case rel => exact ⟨j + 1, by omega, by go_num, HA.out.succ HY.out (by simp [HNE.out]), hbj⟩
            case measure => simp [intOf]; omega
        · obtain rfl : j = k := by omega
          go_wp2
          go_roundw
          case rel =>
            refine ⟨j + 1, by omega, by go_num, ?_, b_then hbn hbi⟩
            rw [HSU.out]
            simp only [emE, HNB.out, HEM.out, if_true]
            rw [if_neg]
            rw [List.any_eq_true]
            rintro ⟨y, hy, hc⟩
            obtain ⟨i, hi, rfl⟩ := List.mem_iff_getElem.1 hy
            have hi2 : i < j := by simp at hi; omega
            have := HA.out i _ hi2 (by rw [List.getElem?_eq_getElem (by omega)])
            rw [List.getElem_take] at hc
            dsimp only at this
            rw [hc] at this
            cases this
          case measure => simp [intOf]; omega
    · obtain rfl : k = l.length := by omega
      have hR0 : R = 0 := HRe.out.trans HZ.out
      subst hR0
      go_wp2
      go_ret
      exact ⟨rfl, b_then hb1 hbw⟩
end Go.Proofs.YtpbhoeaadnemhaaGreat
namespace Go.Proofs.YtpbhoeaadnemhaaGreat
open Go.RowKit
attribute [local go_sem high] max2_mx min2_mn max_two min_two
set_option linter.unusedVariables false
set_option linter.unusedSimpArgs false
set_option maxHeartbeats 4000000
set_option maxRecDepth 100000
theorem aPower (n : Int) (w : World) : Calls Tryz.prog 56 #[.int .i64 n] w fun e w' => e = .returned (.bool (powB n)) ∧ w = w' := by
  go_enter Tryz.func56, Tryz.ntmps56
  go_wp2
  all_goals (go_ret; exact ⟨ret_bool (by rw [Bool.eq_iff_iff]; simp [powB]; try omega), rfl⟩)
theorem aConditions (a b : Int) (w : World) : Calls Tryz.prog 57 #[.int .i64 a, .int .i64 b] w fun e w' => e = .returned (.bool (rightB a b)) ∧ w = w' := by
  go_enter Tryz.func57, Tryz.ntmps57
  go_wp2
  all_goals (go_ret; exact ⟨ret_bool (by rw [Bool.eq_iff_iff]; simp [rightB]; try omega), rfl⟩)
theorem site_right {s : Site} (h : siteB s = true) : rightB s.thr s.noise = true := by
  simp only [siteB, headB, Bool.and_eq_true] at h
  exact h.1.1.1.2
theorem aMargin (s : Site) (hs : siteB s = true) (p : Int) (p0 : 0 ≤ p) (p1 : p ≤ 68719476736) (w : World) :
    Calls Tryz.prog 41 #[.int .i64 p, .int .i64 s.thr, .int .i64 s.noise] w fun e w' => e = .returned (.tuple #[.int .i64 (margI s p), .int .i64 0]) ∧ w = w' := by
  have h1 := is_pow p0 p1
  have h2 := site_right hs
  obtain ⟨t0, t1, n0, n1⟩ := site_thr hs
  obtain ⟨m0, m1, m2, m3⟩ := marg_w hs p0 p1
  go_enter Tryz.func41, Tryz.ntmps41
  go_wp2_with fail
  refine (aPower p _).mono ?_
  rintro e w2 ⟨rfl, rfl⟩
  rw [h1]
  go_wp2_with fail
  refine (aConditions s.thr s.noise _).mono ?_
  rintro e w2 ⟨rfl, rfl⟩
  rw [h2]
  go_wp2
  go_ret2
  exact ⟨ret_two (by unfold margI; rfl) rfl, rfl⟩
end Go.Proofs.YtpbhoeaadnemhaaGreat
