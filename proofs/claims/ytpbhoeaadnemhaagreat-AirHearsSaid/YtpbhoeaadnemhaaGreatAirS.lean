/- The reference: whether a node is busy, the interference. -/
import Derived.Test.YtpbhoeaadnemhaaGreatAirR
namespace Go.Proofs.YtpbhoeaadnemhaaGreat
open Go.RowKit Go.Shelf
set_option linter.unusedVariables false
set_option linter.unusedSimpArgs false
set_option maxHeartbeats 4000000
set_option maxRecDepth 100000
theorem r07busy (l : List Em) (i : Nat) (node : Int) (lv : Value) (w : World) (hi : i < l.length) (hl : SlV 4 KEm w lv l) :
    Calls Tryz.prog 34 #[lv, .int .i64 i, .int .i64 node] w fun e w' => e = .returned (.bool (!freeB l (emD l i) node)) ∧ Below w.heap.size w w' := by
  have hu3 := Tryz.underlying42
  obtain ⟨A5, c5, rfl, hc5, hm5, hr5⟩ := hl
  unfold big at hm5
  have hg := emD_get hi
  generalize emD l i = a at hg ⊢
  have i0 : (0 : Int) ≤ (i : Int) := by omega
  have i1 : (i : Int) < (l.length : Int) := by omega
  have HG := Lib.hid hg
  clear hg
  go_enter Tryz.func34, Tryz.ntmps34
  go_wp2_with fail
  go_loopw [7] (fun i wr => ∃ k : Nat, k ≤ l.length ∧ i = .int .i64 k ∧ allTo (fun b => !(decide (b.node = node) && overB b a)) l k ∧ Below w.heap.size w wr) (fun i _ => l.length - (intOf i).toNat)
  case atStart => exact ⟨0, Nat.zero_le _, rfl, allTo.zero _ _, Below.refl _ _⟩
  case round =>
    obtain ⟨k, hk, rfl, ha, hbw⟩ := hrel
    have HA := Lib.hid ha
    clear ha
    by_cases hlt : k < l.length
    · obtain ⟨b, hb⟩ : ∃ b, l[k]? = some b := ⟨_, List.getElem?_eq_getElem hlt⟩
      obtain ⟨bl, off, hAe, e0, e1, e2, e3⟩ := hr5.em hbw hb
      subst hAe
      obtain ⟨_, _, hAe, f0, f1, f2, f3⟩ := hr5.em hbw HG.out
      cases hAe
      have F0 := Later.cell f0
      have F1 := Later.cell f1
      have F2 := Later.cell f2
      have F3 := Later.cell f3
      have N0 := Later.cell e0
      have N1 := Later.cell e1
      have N2 := Later.cell e2
      have N3 := Later.cell e3
      have k0 : (0 : Int) ≤ (k : Int) := by omega
      have k1 : (k : Int) < (l.length : Int) := by omega
      have HB := Lib.hid hb
      clear hb
      by_cases hne : b.node = node
      · have g1 : (b.node == node) = true := by simpa using hne
        rcases Bool.eq_false_or_eq_true (overB b a) with ho | ho
        · have hfr : freeB l a node = false := by
            unfold freeB
            rw [Bool.not_eq_false', List.any_eq_true]
            exact ⟨b, List.mem_of_getElem? HB.out, by simp [hne, ho]⟩
          have HF := Lib.hid hfr
          clear hne hfr
          go_wp2_with fail
          refine wp_region_later (by kernel_rfl) (by kernel_rfl) ?_
          repeat (go_big_quiet_step ((go_at_call 45; exact later_of (r07OverlapV _ _ _ (by with_reducible assumption)))))
          refine wpQuiet_nil ?_
          rintro _ ⟨z, rfl⟩
          go_wp2
          go_ret
          exact ⟨ret_bool (by rw [HF.out]; rfl), b_then hbw z.below⟩
        · have HO := Lib.hid ho
          clear hne
          go_wp2_with fail
          refine wp_region_later (by kernel_rfl) (by kernel_rfl) ?_
          repeat (go_big_quiet_step ((go_at_call 45; exact later_of (r07OverlapV _ _ _ (by with_reducible assumption)))))
          refine wpQuiet_nil ?_
          rintro _ ⟨z, rfl⟩
          clear ho
          go_wp2
          go_roundw
          case rel => exact ⟨k + 1, by omega, by go_num, HA.out.succ HB.out (by simp [HO.out]), b_then hbw z.below⟩
          case measure => simp [intOf]; omega
      · have g1 : (b.node == node) = false := by simpa using hne
        have HNE := Lib.hid hne
        clear hne
        go_wp2_with fail
        refine wp_region_later (by kernel_rfl) (by kernel_rfl) ?_
        repeat (go_big_quiet_step ((go_at_call 45; exact later_of (r07OverlapV _ _ _ (by with_reducible assumption)))))
        refine wpQuiet_nil ?_
        rintro _ ⟨z, rfl⟩
        go_wp2
        go_roundw
        case rel => exact ⟨k + 1, by omega, by go_num, HA.out.succ HB.out (by simp [HNE.out]), b_then hbw z.below⟩
        case measure => simp [intOf]; omega
    · obtain rfl : k = l.length := by omega
      have hfr : freeB l a node = true := by
        rw [free_iff]
        intro b hb hn
        obtain ⟨i, hi, rfl⟩ := List.mem_iff_getElem.1 hb
        have := HA.out i _ hi (List.getElem?_eq_getElem hi)
        simpa [hn] using this
      have HF := Lib.hid hfr
      clear hfr
      go_wp2
      go_ret
      exact ⟨ret_bool (by rw [HF.out]; rfl), hbw⟩
theorem r07Interf (s : Site) (x : Spm) (l : List Em) (i node : Int) (v xv lv : Value) (w : World) (hs : SiteV w v s) (hx : SpmV w xv x) (hl : SlV 4 KEm w lv l) :
    Calls Tryz.prog 14 #[v, xv, lv, .int .i64 i, .int .i64 node] w fun e w' => e = .returned (.tuple #[.int .i64 (itfN s x l i node), .int .i64 (chkE s x l i node)]) ∧ Below w.heap.size w w' := by
  have hu := Tryz.underlying26
  have hu2 := Tryz.underlying30
  have hu3 := Tryz.underlying42
  obtain ⟨R, hR⟩ : ∃ R, chkE s x l i node = R := ⟨_, rfl⟩
  obtain ⟨N, hN⟩ : ∃ N, itfN s x l i node = N := ⟨_, rfl⟩
  rw [hR, hN]
  have HR := Lib.hid hR
  have HN := Lib.hid hN
  clear hR hN
  have hs' := Lib.hid hs
  obtain ⟨v0, v1, v2, rfl, h0, h1, h2⟩ := hs
  obtain ⟨A0, c0, rfl, hc0, hm0, hr0⟩ := h0
  obtain ⟨A1, c1, rfl, hc1, hm1, hr1⟩ := h1
  obtain ⟨A2, c2, rfl, hc2, hm2, hr2⟩ := h2
  unfold big at hm0 hm1 hm2
  have hx' := Lib.hid hx
  obtain ⟨x0, x1, rfl, h3, h4⟩ := hx
  have H3 := Lib.hid h3
  have H4 := Lib.hid h4
  obtain ⟨A3, c3, rfl, hc3, hm3, hr3⟩ := h3
  obtain ⟨A4, c4, rfl, hc4, hm4, hr4⟩ := h4
  unfold big at hm3 hm4
  have hl' := Lib.hid hl
  obtain ⟨A5, c5, rfl, hc5, hm5, hr5⟩ := hl
  unfold big at hm5
  obtain ⟨W1, hW1⟩ : ∃ W : World, W = ((w.alloc (.cells #[.slice A0 s.nodes.length c0, .slice A1 s.powers.length c1, .slice A2 s.walls.length c2, .int .i64 s.ex, .int .i64 s.noise, .int .i64 s.thr] 26)).alloc (.cells #[.slice A3 x.srcs.length c3, .slice A4 x.fds.length c4] 30)) := ⟨_, rfl⟩; have hb1 : Below w.heap.size w W1 := (by rw [hW1]; (repeat (first | exact Below.refl _ _ | assumption | apply b_alloc | apply b_drewN | apply b_drew))); have q : ∀ wq : World, Below W1.heap.size W1 wq → wq.cell? ⟨w.heap.size, 0, none⟩ = some (.slice A0 s.nodes.length c0) ∧ wq.cell? ⟨w.heap.size, 1, none⟩ = some (.slice A1 s.powers.length c1) ∧ wq.cell? ⟨w.heap.size, 2, none⟩ = some (.slice A2 s.walls.length c2) ∧ wq.cell? ⟨w.heap.size, 3, none⟩ = some (.int .i64 s.ex) ∧ wq.cell? ⟨w.heap.size, 4, none⟩ = some (.int .i64 s.noise) ∧ wq.cell? ⟨w.heap.size, 5, none⟩ = some (.int .i64 s.thr) ∧ wq.cell? ⟨w.heap.size + 1, 0, none⟩ = some (.slice A3 x.srcs.length c3) ∧ wq.cell? ⟨w.heap.size + 1, 1, none⟩ = some (.slice A4 x.fds.length c4) := (fun wq hwr => ⟨cell_mono hwr (by rw [hW1]; go_simp), cell_mono hwr (by rw [hW1]; go_simp), cell_mono hwr (by rw [hW1]; go_simp), cell_mono hwr (by rw [hW1]; go_simp), cell_mono hwr (by rw [hW1]; go_simp), cell_mono hwr (by rw [hW1]; go_simp), cell_mono hwr (by rw [hW1]; go_simp), cell_mono hwr (by rw [hW1]; go_simp)⟩); have HW := Lib.hid hW1; clear hW1
  go_enter Tryz.func14, Tryz.ntmps14
  go_wp2_with fail
  rw [← HW.out]
  have hbA1 : Below W1.heap.size W1 W1 := Below.refl _ _
  refine (r07check s x l i node _ _ _ _ (hs'.out.mono hb1) (hx'.out.mono hb1) (hl'.out.mono KEm.st hb1)).mono ?_
  rintro e w2 ⟨rfl, hbA2⟩
  have hbz2 := b_then hb1 hbA2
  obtain ⟨l20, l21, l22, l23, l24, l25, l26, l27⟩ := q _ hbA2
  by_cases z : R = 0
  rotate_left
  · have g0 : (R == 0) = false := by simpa using z
    have g1 : (R != 0) = true := by simpa using z
    have zz : ¬ chkE s x l i node = 0 := fun h => z (HR.out.symm.trans h)
    have hN0 : N = 0 := by rw [← HN.out]; simp only [itfN, if_neg zz]
    subst hN0
    rw [HR.out]
    clear z zz
    go_wp2
    go_ret2
    exact ⟨rfl, hbz2⟩
  have zz : chkE s x l i node = 0 := HR.out.trans z
  obtain ⟨hE, hin, k, rfl, hk⟩ := chk_zero zz
  have hlen := (valid_of hE).len
  subst z
  have hNe : N = intfI s x l k node := by rw [← HN.out]; simp only [itfN, zz, if_true, Int.toNat_natCast]
  have HNe := Lib.hid hNe
  rw [zz]
  clear hE zz hin hNe
  have hg := emD_get hk
  obtain ⟨a, ha⟩ : ∃ a, emD l k = a := ⟨_, rfl⟩
  rw [ha] at hg
  have HAE := Lib.hid ha
  have k0 : (0 : Int) ≤ (k : Int) := by omega
  have k1 : (k : Int) < (l.length : Int) := by omega
  obtain ⟨bl, off, hAe, e0, e1, e2, e3⟩ := hr5.em hbz2 hg
  subst hAe
  have E0 := Later.cell e0
  have E1 := Later.cell e1
  have E2 := Later.cell e2
  have E3 := Later.cell e3
  try clear l20 l21 l22 l23 l24 l25 l26 l27
  obtain ⟨m0, m1, m2, m3, m4, m5, m6, m7⟩ := q _ hbA2; have Lm0 := Later.cell m0; have Lm1 := Later.cell m1; have Lm2 := Later.cell m2; have Lm3 := Later.cell m3; have Lm4 := Later.cell m4; have Lm5 := Later.cell m5; have Lm6 := Later.cell m6; have Lm7 := Later.cell m7
  have hsL : ∀ z : Later w2, SiteV z.W (.agg #[.slice A0 s.nodes.length c0, .slice A1 s.powers.length c1, .slice A2 s.walls.length c2, .int .i64 s.ex, .int .i64 s.noise, .int .i64 s.thr]) s := fun z => hs'.out.mono (b_then hbz2 z.below)
  have hxL : ∀ z : Later w2, SpmV z.W (.agg #[.slice A3 x.srcs.length c3, .slice A4 x.fds.length c4]) x := fun z => hx'.out.mono (b_then hbz2 z.below)
  have HSL := Lib.hid hsL
  have HXL := Lib.hid hxL
  clear hg ha hsL hxL e0 e1 e2 e3
  have hex : extI s x a node = extN s x node a.ch a.frm a.to := rfl
  have HEX := Lib.hid hex
  clear hex
  go_wp2_with fail
  refine wp_region_later (by kernel_rfl) (by kernel_rfl) ?_
  repeat (go_big_quiet_step ((go_at_call 32; exact later_of (r06External s x _ _ node a.ch a.frm a.to _ (HSL.out _) (HXL.out _)))))
  refine wpQuiet_nil ?_
  rintro _ ⟨z, rfl⟩
  have hbA3 := b_then hbA2 z.below
  have hbz3 := b_then hb1 hbA3
  generalize z.W = w3 at *
  clear Lm0 Lm1 Lm2 Lm3 Lm4 Lm5 Lm6 Lm7 E0 E1 E2 E3
  go_wp2_with fail
  go_loopw [13, 15] (fun o j wr => ∃ n : Nat, n ≤ l.length ∧ j = .int .i64 n ∧ o = .int .i64 (intfTo s x l k node n) ∧ Below w3.heap.size w3 wr) (fun _ j _ => l.length - (intOf j).toNat)
  case atStart => exact ⟨0, Nat.zero_le _, rfl, by rw [show intfTo s x l k node 0 = extI s x (emD l k) node from rfl, HAE.out, HEX.out], Below.refl _ _⟩
  case round =>
    obtain ⟨n, hn, rfl, rfl, hbw⟩ := hrel
    have hbzw := b_then hbz3 hbw
    have hbAw := b_then hbA3 hbw
    by_cases hlt : n < l.length
    · have hsu := intf_succ s x l k node n
      have HSU := Lib.hid hsu
      clear hsu
      go_wp2_with fail
      refine (r07counts l k n node _ _ hk hlt (hl'.out.mono KEm.st hbzw)).mono ?_
      rintro e w4 ⟨rfl, hb4⟩
      have hb34 := b_then hbw hb4
      rcases Bool.eq_false_or_eq_true (cntB (emD l k) k node n (emD l n)) with c | c
      rotate_left
      · have hs2 := HSU.out
        rw [c] at hs2 ⊢
        simp only [Bool.false_eq_true, if_false] at hs2
        have HS2 := Lib.hid hs2
        clear hs2 c
        go_wp2
        go_roundw
        case rel => exact ⟨n + 1, by omega, by go_num, by rw [HS2.out], hb34⟩
        case measure => simp [intOf]; omega
      have hs2 := HSU.out
      rw [c] at hs2 ⊢
      simp only [if_true] at hs2
      have hgn := emD_get hlt
      obtain ⟨b, hb⟩ : ∃ b, emD l n = b := ⟨_, rfl⟩
      rw [hb] at hgn hs2
      have hsg : sigI s x b node = sigN s x b.node node b.ch b.frm := rfl
      rw [hsg] at hs2
      have HS2 := Lib.hid hs2
      have hbz4 := b_then hbzw hb4
      obtain ⟨_, _, hAe, e0, e1, e2, e3⟩ := hr5.em hbz4 hgn
      cases hAe
      have E0 := Later.cell e0
      have E1 := Later.cell e1
      have E2 := Later.cell e2
      have E3 := Later.cell e3
      obtain ⟨m0, m1, m2, m3, m4, m5, m6, m7⟩ := q _ (b_then hbAw hb4); have Lm0 := Later.cell m0; have Lm1 := Later.cell m1; have Lm2 := Later.cell m2; have Lm3 := Later.cell m3; have Lm4 := Later.cell m4; have Lm5 := Later.cell m5; have Lm6 := Later.cell m6; have Lm7 := Later.cell m7
      have hsL : ∀ z : Later w4, SiteV z.W (.agg #[.slice A0 s.nodes.length c0, .slice A1 s.powers.length c1, .slice A2 s.walls.length c2, .int .i64 s.ex, .int .i64 s.noise, .int .i64 s.thr]) s := fun z => hs'.out.mono (b_then hbz4 z.below)
      have hxL : ∀ z : Later w4, SpmV z.W (.agg #[.slice A3 x.srcs.length c3, .slice A4 x.fds.length c4]) x := fun z => hx'.out.mono (b_then hbz4 z.below)
      have HSL2 := Lib.hid hsL
      have HXL2 := Lib.hid hxL
      have n0 : (0 : Int) ≤ (n : Int) := by omega
      have n1 : (n : Int) < (l.length : Int) := by omega
      generalize hpg : intfTo s x l k node n = pk at HS2 ⊢
      clear hs2 hsg hgn hb c hsL hxL hpg
      go_wp2_with fail
      refine wp_region_later (by kernel_rfl) (by kernel_rfl) ?_
      repeat (go_big_quiet_step ((go_at_call 33; exact later_of (r06Signal s x _ _ b.node node b.ch b.frm _ (HSL2.out _) (HXL2.out _)))))
      refine wpQuiet_nil ?_
      rintro _ ⟨z, rfl⟩
      go_wp2
      go_roundw
      case rel => exact ⟨n + 1, by omega, by go_num, by rw [HS2.out], b_then hb34 z.below⟩
      case measure => simp [intOf]; omega
    · obtain rfl : n = l.length := by omega
      go_wp2
      go_ret2
      exact ⟨ret_two (by rw [HNe.out]; rfl) rfl, hbzw⟩
end Go.Proofs.YtpbhoeaadnemhaaGreat
