/- Walk of the reference's Check of a site. -/
import Derived.Test.YtpbhoeaadnemhaaGreatM2
namespace Go.Proofs.YtpbhoeaadnemhaaGreat
open Go.RowKit
attribute [local go_sem high] max2_mx min2_mn max_two min_two
set_option linter.unusedVariables false
set_option linter.unusedSimpArgs false
set_option maxHeartbeats 4000000
set_option maxRecDepth 100000
theorem r05Check (s : Site) (v : Value) (w : World) (hs : SiteV w v s) : Calls Tryz.prog 43 #[v] w fun e w' => e = .returned (.int .i64 (okN (siteB s))) ∧ Below w.heap.size w w' := by
  have hu := Tryz.underlying54
  have hu2 := Tryz.underlying26
  have hu3 := Tryz.underlying91
  obtain ⟨nodes, powers, walls, ex, noise, thr⟩ := s
  obtain ⟨v0, v1, v2, rfl, ⟨A0, c0, rfl, hc0, hm0, hr0⟩, ⟨A1, c1, rfl, hc1, hm1, hr1⟩, ⟨A2, c2, rfl, hc2, hm2, hr2⟩⟩ := hs
  dsimp only at *
  unfold big at hm0 hm1 hm2
  obtain ⟨W1, hW1⟩ : ∃ W1, W1 = w.alloc (.cells #[.slice A0 nodes.length c0, .slice A1 powers.length c1, .slice A2 walls.length c2, .int .i64 ex, .int .i64 noise, .int .i64 thr] 26) := ⟨_, rfl⟩
  have hb1 : Below w.heap.size w W1 := by rw [hW1]; (repeat (first | exact Below.refl _ _ | assumption | apply b_alloc | apply b_drewN | apply b_drew))
  have HW := Lib.hid hW1
  clear hW1
  by_cases hh : headB ⟨nodes, powers, walls, ex, noise, thr⟩ = true
  · have HH := Lib.hid hh
    simp only [headB, Bool.and_eq_true, Bool.or_eq_true, decide_eq_true_eq] at hh
    obtain ⟨⟨⟨⟨⟨h1, h2⟩, h3⟩, h4⟩, h5⟩, h6⟩ := hh
    have g1 : decide ((nodes.length : Int) < 2) = false := by simp; omega
    have g2 : decide (32 < (nodes.length : Int)) = false := by simp; omega
    have g3 : ((powers.length : Int) != (nodes.length : Int)) = false := by simp [h3]
    have g4 : decide (32 < (walls.length : Int)) = false := by simp; omega
    have H3 := Lib.hid h3
    clear h3
    have H6 := Lib.hid h6
    clear h6
    rcases h5 with rfl | rfl
    all_goals
      go_enter Tryz.func43, Tryz.ntmps43
      go_wp2_with fail
      refine (r04Right _ _ _).mono ?_
      rintro e w' ⟨rfl, rfl⟩
      rw [H6.out]
      go_wp2_with fail
      rw [← HW.out]
      go_loopw [4] (fun i wr => ∃ k : Nat, k ≤ nodes.length ∧ i = .int .i64 k ∧ allTo ptB nodes k ∧ allTo powB powers k ∧ Below W1.heap.size W1 wr) (fun i _ => nodes.length - (intOf i).toNat)
      case atStart => exact ⟨0, Nat.zero_le _, rfl, allTo.zero _ _, allTo.zero _ _, Below.refl _ _⟩
      case round =>
        obtain ⟨k, hk, rfl, ha1, ha2, hbw⟩ := hrel
        by_cases hlt : k < nodes.length
        · obtain ⟨p, hp⟩ : ∃ p, nodes[k]? = some p := ⟨_, List.getElem?_eq_getElem hlt⟩
          obtain ⟨q, hq⟩ : ∃ q, powers[k]? = some q := ⟨_, List.getElem?_eq_getElem (by rw [H3.out]; exact hlt)⟩
          have hlp : k < powers.length := by rw [H3.out]; exact hlt
          obtain ⟨b0, o0, rfl, hx0, hx1⟩ := hr0.pt (b_then hb1 hbw) hp
          have hs0 := box_at hbw HW.out 0 rfl
          have Hp := Lib.hid hp
          have Hq := Lib.hid hq
          clear hp hq
          go_wp2_with fail
          refine (r05Point p _).mono ?_
          rintro e w2 ⟨rfl, hb2⟩
          have hbw2 := b_then hbw hb2
          obtain ⟨b1, o1, rfl, hy0⟩ := hr1.int (b_then hb1 hbw2) Hq.out
          have hs1 := box_at hbw2 HW.out 1 rfl
          by_cases hpt : ptB p = true
          · rw [hpt]
            go_wp2_with fail
            refine (r04Is q _).mono ?_
            rintro e w3 ⟨rfl, rfl⟩
            by_cases hpw : powB q = true
            · rw [hpw]
              go_wp2
              go_roundw
              case rel => exact ⟨k + 1, by omega, by go_num, ha1.succ Hp.out hpt, ha2.succ Hq.out hpw, hbw2⟩
              case measure => simp [intOf]; omega
            · rw [Bool.eq_false_iff.2 hpw]
              go_wp2
              go_ret
              exact ⟨ret_int (by simp [okN, siteB, all_false Hq.out (Bool.eq_false_iff.2 hpw)]), b_then hb1 hbw2⟩
          · rw [Bool.eq_false_iff.2 hpt]
            go_wp2
            go_ret
            exact ⟨ret_int (by simp [okN, siteB, all_false Hp.out (Bool.eq_false_iff.2 hpt)]), b_then hb1 hbw2⟩
        · go_wp2_with fail
          have hn := ha1.all (by omega)
          have hq := ha2.all (by rw [H3.out]; omega)
          have Hn := Lib.hid hn
          have Hq := Lib.hid hq
          clear hn hq ha1 ha2
          obtain ⟨wo, rfl⟩ : ∃ wo : World, wo = wr := ⟨_, rfl⟩
          have hz0 := box_at hbw HW.out 2 rfl
          go_loopw [5] (fun i wr => ∃ k : Nat, k ≤ walls.length ∧ i = .int .i64 k ∧ allTo wlB walls k ∧ Below W1.heap.size W1 wr) (fun i _ => walls.length - (intOf i).toNat)
          case atStart => exact ⟨0, Nat.zero_le _, rfl, allTo.zero _ _, hbw⟩
          case round =>
            clear hz0 hbw hlt hk
            obtain ⟨k, hk, rfl, ha, hbw⟩ := hrel
            have hz2 := box_at hbw HW.out 2 rfl
            by_cases hlt : k < walls.length
            · obtain ⟨p, hp⟩ : ∃ p, walls[k]? = some p := ⟨_, List.getElem?_eq_getElem hlt⟩
              obtain ⟨b0, o0, rfl, hx0, hx1, hx2, hx3, hx4⟩ := hr2.wl (b_then hb1 hbw) hp
              have Hp := Lib.hid hp
              clear hp
              by_cases hw : wlB p = true
              · have hw' := hw
                simp only [wlB, Bool.and_eq_true, decide_eq_true_eq] at hw
                obtain ⟨⟨⟨q1, q2⟩, q3⟩, q4⟩ := hw
                have Q1 := Lib.hid q1
                have Q2 := Lib.hid q2
                have HW' := Lib.hid hw'
                clear q1 q2 hw'
                go_wp2_with fail
                refine (r05Point p.a _).mono ?_
                rintro e w2 ⟨rfl, hb2⟩
                rw [Q1.out]
                have hk2 := box_at hb2 rfl 2 rfl
                have hk3 := box_at hb2 rfl 3 rfl
                go_wp2_with fail
                refine (r05Point p.b _).mono ?_
                rintro e w3 ⟨rfl, hb3⟩
                rw [Q2.out]
                have hk4 := box_at (b_then hb2 hb3) rfl 4 rfl
                go_wp2
                go_roundw
                case rel => exact ⟨k + 1, by omega, by go_num, ha.succ Hp.out HW'.out, b_then hbw (b_then (b_alloc (Below.refl _ _) _) (b_then hb2 hb3))⟩
                case measure => simp [intOf]; omega
              · have hw' := Bool.eq_false_iff.2 hw
                have hfin : ∀ ex, siteB ⟨nodes, powers, walls, ex, noise, thr⟩ = false := fun ex => by simp [siteB, all_false Hp.out hw']
                have Hfin := Lib.hid hfin
                have HW' := Lib.hid hw'
                clear hw hw' hfin
                go_wp2_with fail
                refine (r05Point p.a _).mono ?_
                rintro e w2 ⟨rfl, hb2⟩
                rcases Bool.eq_false_or_eq_true (ptB p.a) with q1 | q1
                · rw [q1]
                  have hk2 := box_at hb2 rfl 2 rfl
                  have hk3 := box_at hb2 rfl 3 rfl
                  go_wp2_with fail
                  refine (r05Point p.b _).mono ?_
                  rintro e w3 ⟨rfl, hb3⟩
                  have hk4 := box_at (b_then hb2 hb3) rfl 4 rfl
                  rcases Bool.eq_false_or_eq_true (ptB p.b) with q2 | q2
                  · rw [q2]
                    have hq : p.f < 0 ∨ 1000 < p.f := by
                      have := HW'.out
                      simp [wlB, q1, q2] at this
                      omega
                    rcases hq with hq | hq
                    · go_wp2
                      go_ret
                      exact ⟨ret_int (by rw [Hfin.out]; rfl), b_then hb1 (b_then hbw (b_then (b_alloc (Below.refl _ _) _) (b_then hb2 hb3)))⟩
                    · have hq0 : 0 ≤ p.f := by omega
                      go_wp2
                      go_ret
                      exact ⟨ret_int (by rw [Hfin.out]; rfl), b_then hb1 (b_then hbw (b_then (b_alloc (Below.refl _ _) _) (b_then hb2 hb3)))⟩
                  · rw [q2]
                    go_wp2
                    go_ret
                    exact ⟨ret_int (by rw [Hfin.out]; rfl), b_then hb1 (b_then hbw (b_then (b_alloc (Below.refl _ _) _) (b_then hb2 hb3)))⟩
                · rw [q1]
                  go_wp2
                  go_ret
                  exact ⟨ret_int (by rw [Hfin.out]; rfl), b_then hb1 (b_then hbw (b_then (b_alloc (Below.refl _ _) _) hb2))⟩
            · go_wp2_with fail
              go_ret
              exact ⟨ret_int (by simp [okN, siteB, HH.out, Hn.out, Hq.out, ha.all (show walls.length ≤ k by omega)]), b_then hb1 hbw⟩
  · have hfin : siteB ⟨nodes, powers, walls, ex, noise, thr⟩ = false := by simp [siteB, Bool.eq_false_iff.2 hh]
    have Hfin := Lib.hid hfin
    have HH := Lib.hid hh
    clear hh hfin
    go_enter Tryz.func43, Tryz.ntmps43
    go_wp2_with fail
    all_goals first
      | (go_ret; exact ⟨ret_int (by rw [Hfin.out]; rfl), by (repeat (first | exact Below.refl _ _ | assumption | apply b_alloc | apply b_drewN | apply b_drew))⟩)
      | (refine (r04Right _ _ _).mono ?_
         rintro e w' ⟨rfl, rfl⟩
         rcases Bool.eq_false_or_eq_true (rightB thr noise) with q | q
         · exfalso
           have := HH.out
           simp [headB, q] at this
           omega
         · rw [q]
           go_wp2
           go_ret
           exact ⟨ret_int (by rw [Hfin.out]; rfl), by (repeat (first | exact Below.refl _ _ | assumption | apply b_alloc | apply b_drewN | apply b_drew))⟩)
end Go.Proofs.YtpbhoeaadnemhaaGreat
