/- The reference: Disturbers. -/
import Derived.Test.YtpbhoeaadnemhaaGreatAirT
namespace Go.Proofs.YtpbhoeaadnemhaaGreat
open Go.RowKit Go.Shelf
set_option linter.unusedVariables false
set_option linter.unusedSimpArgs false
set_option maxHeartbeats 4000000
set_option maxRecDepth 100000
theorem r07InterfE {s : Site} {x : Spm} {l : List Em} {i node : Int} {v xv lv : Value} {w : World} {c : Int} (hs : SiteV w v s) (hx : SpmV w xv x) (hl : SlV 4 KEm w lv l) (hE : chkE s x l i node = 0) (hc : itfN s x l i node = c) :
    Calls Tryz.prog 14 #[v, xv, lv, .int .i64 i, .int .i64 node] w fun e w' => e = .returned (.tuple #[.int .i64 c, .int .i64 0]) ∧ Below w.heap.size w w' := by
  have := r07Interf s x l i node v xv lv w hs hx hl
  rwa [hE, hc] at this
theorem oth_len (l : List Em) (i : Nat) (node : Int) (n : Nat) : (othTo l i node n).length ≤ n := range_len n _
theorem r07Disturbers (s : Site) (x : Spm) (l : List Em) (i node : Int) (v xv lv : Value) (w : World) (hs : SiteV w v s) (hx : SpmV w xv x) (hl : SlV 4 KEm w lv l) :
    Calls Tryz.prog 11 #[v, xv, lv, .int .i64 i, .int .i64 node] w fun e w' => ∃ u, e = .returned (.tuple #[u, .int .i64 (chkE s x l i node)]) ∧ SlV 1 KI w' u (disN s x l i node) ∧ Below w.heap.size w w' := by
  have hu := Tryz.underlying26
  have hu2 := Tryz.underlying30
  have hu3 := Tryz.underlying42
  obtain ⟨R, hR⟩ : ∃ R, chkE s x l i node = R := ⟨_, rfl⟩
  obtain ⟨N, hN⟩ : ∃ N, disN s x l i node = N := ⟨_, rfl⟩
  rw [hR, hN]
  have HR := Lib.hid hR
  have HN := Lib.hid hN
  clear hR hN
  have hs' := Lib.hid hs
  obtain ⟨v0, v1, v2, rfl, h0, h1, h2⟩ := hs
  obtain ⟨A0, c0, rfl, hc0, hm0, hr0⟩ := h0
  obtain ⟨A1, c1, rfl, hc1, hm1, hr1⟩ := h1
  obtain ⟨A2, c2, rfl, hc2, hm2, hr2⟩ := h2
  unfold big at hm0 hm1 hm2
  have hx' := Lib.hid hx
  obtain ⟨x0, x1, rfl, h3, h4⟩ := hx
  have H3 := Lib.hid h3
  have H4 := Lib.hid h4
  obtain ⟨A3, c3, rfl, hc3, hm3, hr3⟩ := h3
  obtain ⟨A4, c4, rfl, hc4, hm4, hr4⟩ := h4
  unfold big at hm3 hm4
  have hl' := Lib.hid hl
  obtain ⟨A5, c5, rfl, hc5, hm5, hr5⟩ := hl
  unfold big at hm5
  obtain ⟨W1, hW1⟩ : ∃ W : World, W = ((w.alloc (.cells #[.slice A0 s.nodes.length c0, .slice A1 s.powers.length c1, .slice A2 s.walls.length c2, .int .i64 s.ex, .int .i64 s.noise, .int .i64 s.thr] 26)).alloc (.cells #[.slice A3 x.srcs.length c3, .slice A4 x.fds.length c4] 30)) := ⟨_, rfl⟩; have hb1 : Below w.heap.size w W1 := (by rw [hW1]; (repeat (first | exact Below.refl _ _ | assumption | apply b_alloc | apply b_drewN | apply b_drew))); have q : ∀ wq : World, Below W1.heap.size W1 wq → wq.cell? ⟨w.heap.size, 0, none⟩ = some (.slice A0 s.nodes.length c0) ∧ wq.cell? ⟨w.heap.size, 1, none⟩ = some (.slice A1 s.powers.length c1) ∧ wq.cell? ⟨w.heap.size, 2, none⟩ = some (.slice A2 s.walls.length c2) ∧ wq.cell? ⟨w.heap.size, 3, none⟩ = some (.int .i64 s.ex) ∧ wq.cell? ⟨w.heap.size, 4, none⟩ = some (.int .i64 s.noise) ∧ wq.cell? ⟨w.heap.size, 5, none⟩ = some (.int .i64 s.thr) ∧ wq.cell? ⟨w.heap.size + 1, 0, none⟩ = some (.slice A3 x.srcs.length c3) ∧ wq.cell? ⟨w.heap.size + 1, 1, none⟩ = some (.slice A4 x.fds.length c4) := (fun wq hwr => ⟨cell_mono hwr (by rw [hW1]; go_simp), cell_mono hwr (by rw [hW1]; go_simp), cell_mono hwr (by rw [hW1]; go_simp), cell_mono hwr (by rw [hW1]; go_simp), cell_mono hwr (by rw [hW1]; go_simp), cell_mono hwr (by rw [hW1]; go_simp), cell_mono hwr (by rw [hW1]; go_simp), cell_mono hwr (by rw [hW1]; go_simp)⟩); have HW := Lib.hid hW1; clear hW1
  go_enter Tryz.func11, Tryz.ntmps11
  go_wp2_with fail
  rw [← HW.out]
  have hbA1 : Below W1.heap.size W1 W1 := Below.refl _ _
  refine (r07check s x l i node _ _ _ _ (hs'.out.mono hb1) (hx'.out.mono hb1) (hl'.out.mono KEm.st hb1)).mono ?_
  rintro e w2 ⟨rfl, hbA2⟩
  have hbz2 := b_then hb1 hbA2
  obtain ⟨l20, l21, l22, l23, l24, l25, l26, l27⟩ := q _ hbA2
  by_cases z : R = 0
  rotate_left
  · have g0 : (R == 0) = false := by simpa using z
    have g1 : (R != 0) = true := by simpa using z
    have zz : ¬ chkE s x l i node = 0 := fun h => z (HR.out.symm.trans h)
    have hN0 : N = [] := by rw [← HN.out]; simp only [disN, if_neg zz]
    subst hN0
    rw [HR.out]
    clear z zz
    go_wp2
    go_ret2
    exact ⟨_, rfl, ⟨none, 0, rfl, Nat.le_refl _, Nat.zero_le _, fun h => absurd rfl h⟩, hbz2⟩
  have zz : chkE s x l i node = 0 := HR.out.trans z
  obtain ⟨hE, hin, k, rfl, hk⟩ := chk_zero zz
  have hv := valid_of hE
  have hsv := hv.site
  have hlen := hv.len
  subst z
  have hNe : N = disI s x l k node := by rw [← HN.out]; simp only [disN, zz, if_true, Int.toNat_natCast]
  have hIe : itfN s x l k node = intfI s x l k node := by simp only [itfN, zz, if_true, Int.toNat_natCast]
  have HNe := Lib.hid hNe
  have HIE := Lib.hid hIe
  have HZZ := Lib.hid zz
  obtain ⟨b0, b1⟩ := intf_bd s x l k node l.length (by omega)
  have hb0 : 0 ≤ intfI s x l k node := b0
  have hb1' : intfI s x l k node ≤ 4535485464576 := b1
  obtain ⟨x0, x1⟩ := ext_bd s x node (emD l k).ch (emD l k).frm (emD l k).to
  obtain ⟨p0, p1⟩ := sig_bd s x (emD l k).node node (emD l k).ch (emD l k).frm
  have hdI : ∀ w', Calls Tryz.prog 35 #[.int .i64 (sigN s x (emD l k).node node (emD l k).ch (emD l k).frm), .int .i64 s.thr, .int .i64 s.noise, .int .i64 (intfI s x l k node)] w' fun e w'' => e = .returned (.bool (hearB s (sigI s x (emD l k) node) (intfI s x l k node))) ∧ Below w'.heap.size w' w'' :=
    fun w' => r04Decide s hsv (sigI s x (emD l k) node) (intfI s x l k node) p0 p1 hb0 hb1' w'
  have hdE : ∀ w', Calls Tryz.prog 35 #[.int .i64 (sigN s x (emD l k).node node (emD l k).ch (emD l k).frm), .int .i64 s.thr, .int .i64 s.noise, .int .i64 (extN s x node (emD l k).ch (emD l k).frm (emD l k).to)] w' fun e w'' => e = .returned (.bool (hearB s (sigI s x (emD l k) node) (extI s x (emD l k) node))) ∧ Below w'.heap.size w' w'' :=
    fun w' => r04Decide s hsv (sigI s x (emD l k) node) (extI s x (emD l k) node) p0 p1 x0 (by unfold extI; omega) w'
  have HDI := Lib.hid hdI
  have HDE := Lib.hid hdE
  rw [zz]
  clear hE zz hin hNe hIe hv hb0 hb1' b0 b1 p0 p1 x0 x1 hdI hdE
  go_wp2_with fail
  obtain ⟨W2, hW2⟩ : ∃ W2, W2 = w2.alloc (.cells #[] 3) := ⟨_, rfl⟩
  rw [← hW2]
  have hb22 : Below w2.heap.size w2 W2 := by rw [hW2]; (repeat (first | exact Below.refl _ _ | assumption | apply b_alloc | apply b_drewN | apply b_drew))
  have hown0 : W2.ownsRow w2.heap.size 3 1 (.slice (some ⟨w2.heap.size, 0, none⟩) 0 0) 0 [] := by rw [hW2]; exact own_zero w2
  have hbz3 := b_then hbz2 hb22
  have hbA3 := b_then hbA2 hb22
  clear hW2
  try clear l20 l21 l22 l23 l24 l25 l26 l27
  have hg := emD_get hk
  have k0 : (0 : Int) ≤ (k : Int) := by omega
  have k1 : (k : Int) < (l.length : Int) := by omega
  obtain ⟨bl, off, hAe, e0, e1, e2, e3⟩ := hr5.em hbz3 hg
  subst hAe
  have E0 := Later.cell e0
  have E1 := Later.cell e1
  have E2 := Later.cell e2
  have E3 := Later.cell e3
  obtain ⟨m0, m1, m2, m3, m4, m5, m6, m7⟩ := q _ hbA3; have Lm0 := Later.cell m0; have Lm1 := Later.cell m1; have Lm2 := Later.cell m2; have Lm3 := Later.cell m3; have Lm4 := Later.cell m4; have Lm5 := Later.cell m5; have Lm6 := Later.cell m6; have Lm7 := Later.cell m7
  have hsL : ∀ z : Later W2, SiteV z.W (.agg #[.slice A0 s.nodes.length c0, .slice A1 s.powers.length c1, .slice A2 s.walls.length c2, .int .i64 s.ex, .int .i64 s.noise, .int .i64 s.thr]) s := fun z => hs'.out.mono (b_then hbz3 z.below)
  have hxL : ∀ z : Later W2, SpmV z.W (.agg #[.slice A3 x.srcs.length c3, .slice A4 x.fds.length c4]) x := fun z => hx'.out.mono (b_then hbz3 z.below)
  have HSL := Lib.hid hsL
  have HXL := Lib.hid hxL
  clear hsL hxL
  refine wp_region_later (by kernel_rfl) (by kernel_rfl) ?_
  repeat (go_big_quiet_step ((go_at_call 32; exact later_of (r06External s x _ _ node (emD l k).ch (emD l k).frm (emD l k).to _ (HSL.out _) (HXL.out _)))))
  refine wpQuiet_nil ?_
  rintro _ ⟨z, rfl⟩
  have hb4 := z.below
  generalize z.W = w4 at *
  have hbA4 := b_then hbA3 hb4
  have hbz4 := b_then hb1 hbA4
  have e0' := cell_mono hb4 e0
  have e1' := cell_mono hb4 e1
  have e2' := cell_mono hb4 e2
  have e3' := cell_mono hb4 e3
  try clear m0 m1 m2 m3 m4 m5 m6 m7
  clear Lm0 Lm1 Lm2 Lm3 Lm4 Lm5 Lm6 Lm7 E0 E1 E2 E3 e0 e1 e2 e3
  have E0 := Later.cell e0'
  have E1 := Later.cell e1'
  have E2 := Later.cell e2'
  have E3 := Later.cell e3'
  obtain ⟨m0, m1, m2, m3, m4, m5, m6, m7⟩ := q _ hbA4; have Lm0 := Later.cell m0; have Lm1 := Later.cell m1; have Lm2 := Later.cell m2; have Lm3 := Later.cell m3; have Lm4 := Later.cell m4; have Lm5 := Later.cell m5; have Lm6 := Later.cell m6; have Lm7 := Later.cell m7
  have hsL : ∀ z : Later w4, SiteV z.W (.agg #[.slice A0 s.nodes.length c0, .slice A1 s.powers.length c1, .slice A2 s.walls.length c2, .int .i64 s.ex, .int .i64 s.noise, .int .i64 s.thr]) s := fun z => hs'.out.mono (b_then hbz4 z.below)
  have hxL : ∀ z : Later w4, SpmV z.W (.agg #[.slice A3 x.srcs.length c3, .slice A4 x.fds.length c4]) x := fun z => hx'.out.mono (b_then hbz4 z.below)
  have HSL2 := Lib.hid hsL
  have HXL2 := Lib.hid hxL
  clear hsL hxL
  go_wp2_with fail
  refine wp_region_later (by kernel_rfl) (by kernel_rfl) ?_
  repeat (go_big_quiet_step ((go_at_call 33; exact later_of (r06Signal s x _ _ (emD l k).node node (emD l k).ch (emD l k).frm _ (HSL2.out _) (HXL2.out _)))))
  refine wpQuiet_nil ?_
  rintro _ ⟨z, rfl⟩
  have hb5 := z.below
  generalize z.W = w5 at *
  have hb45 := b_then hb4 hb5
  have hbA5 := b_then hbA4 hb5
  have hbz5 := b_then hb1 hbA5
  try clear m0 m1 m2 m3 m4 m5 m6 m7
  clear Lm0 Lm1 Lm2 Lm3 Lm4 Lm5 Lm6 Lm7 E0 E1 E2 E3 e0' e1' e2' e3'
  obtain ⟨n0, n1, n2, n3, n4, n5, n6, n7⟩ := q _ hbA5
  go_wp2_with fail
  refine (r07InterfE (hs'.out.mono hbz5) (hx'.out.mono hbz5) (hl'.out.mono KEm.st hbz5) HZZ.out HIE.out).mono ?_
  rintro e w6 ⟨rfl, hb6⟩
  have hbA6 := b_then hbA5 hb6
  have hbz6 := b_then hb1 hbA6
  try clear n0 n1 n2 n3 n4 n5 n6 n7
  obtain ⟨n0, n1, n2, n3, n4, n5, n6, n7⟩ := q _ hbA6
  go_wp2_with fail
  rcases Bool.eq_false_or_eq_true (freeB l (emD l k) node) with hf | hf
  rotate_left
  · have hlost : lostB s x l k node = false := by simp [lost_iff, hf]
    have hNe2 : N = [] := by rw [HNe.out]; simp only [disI, hlost]; rfl
    subst hNe2
    refine (r07busyV l k node _ _ hk (hl'.out.mono KEm.st hbz6) hf).mono ?_
    rintro e w7 ⟨rfl, hb7⟩
    clear hlost
    simp only [Bool.not_false]
    go_wp2
    go_ret2
    exact ⟨_, rfl, own_sl (xs := []) (own_below hown0 (b_then (b_then hb45 hb6) hb7)) (Nat.zero_le _), b_then hbz6 hb7⟩
  refine (r07busyV l k node _ _ hk (hl'.out.mono KEm.st hbz6) hf).mono ?_
  rintro e w7 ⟨rfl, hb7⟩
  have hbA7 := b_then hbA6 hb7
  have hbz7 := b_then hb1 hbA7
  have HF := Lib.hid hf
  clear hf
  simp only [Bool.not_true]
  try clear n0 n1 n2 n3 n4 n5 n6 n7
  obtain ⟨n0, n1, n2, n3, n4, n5, n6, n7⟩ := q _ hbA7
  go_wp2_with fail
  refine (HDE.out _).mono ?_
  rintro e w8 ⟨rfl, hb8⟩
  rcases Bool.eq_false_or_eq_true (hearB s (sigI s x (emD l k) node) (extI s x (emD l k) node)) with hh | hh
  rotate_left
  · have hlost : lostB s x l k node = false := by simp [lost_iff, hh]
    have hNe2 : N = [] := by rw [HNe.out]; simp only [disI, hlost]; rfl
    subst hNe2
    rw [hh]
    clear hlost hh
    go_wp2
    go_ret2
    exact ⟨_, rfl, own_sl (xs := []) (own_below hown0 (b_then (b_then (b_then hb45 hb6) hb7) hb8)) (Nat.zero_le _), b_then hbz7 hb8⟩
  rw [hh]
  have HH := Lib.hid hh
  clear hh
  have hbA8 := b_then hbA7 hb8
  have hbz8 := b_then hb1 hbA8
  try clear n0 n1 n2 n3 n4 n5 n6 n7
  obtain ⟨n0, n1, n2, n3, n4, n5, n6, n7⟩ := q _ hbA8
  go_wp2_with fail
  refine (HDI.out _).mono ?_
  rintro e w9 ⟨rfl, hb9⟩
  have hbz9 := b_then hbz8 hb9
  have hb29 : Below W2.heap.size W2 w9 := b_then (b_then (b_then (b_then hb45 hb6) hb7) hb8) hb9
  rcases Bool.eq_false_or_eq_true (hearB s (sigI s x (emD l k) node) (intfI s x l k node)) with hr | hr
  · have hlost : lostB s x l k node = false := by simp [lostB, hr]
    have hNe2 : N = [] := by rw [HNe.out]; simp only [disI, hlost]; rfl
    subst hNe2
    rw [hr]
    clear hlost hr
    go_wp2
    go_ret2
    exact ⟨_, rfl, own_sl (xs := []) (own_below hown0 hb29) (Nat.zero_le _), hbz9⟩
  have hlost : lostB s x l k node = true := by simp [lostB, HF.out, HH.out, hr]
  have hNe2 : N = (othL l k node).map fun (k : Nat) => (k : Int) := by rw [HNe.out]; simp only [disI, hlost]; rfl
  have HN2 := Lib.hid hNe2
  rw [hr]
  clear hlost hNe2 hr
  have hb2w : Below w2.heap.size w2 w9 := b_then hb22 hb29
  have hownW := own_below hown0 hb29
  go_wp2_with fail
  go_loopw [13, 20] (fun o i wr => ∃ n : Nat, n ≤ l.length ∧ i = .int .i64 n ∧ (∃ A n' c, o = .slice A n' c) ∧ wr.ownsRow w2.heap.size 3 1 o ((othTo l k node n).map fun (k : Nat) => (k : Int)).length (((othTo l k node n).map fun (k : Nat) => (k : Int)).map (Value.int .i64)) ∧ Below w2.heap.size w2 wr) (fun _ i _ => l.length - (intOf i).toNat)
  case atStart => exact ⟨0, Nat.zero_le _, rfl, ⟨_, _, _, rfl⟩, hownW, hb2w⟩
  case round =>
    obtain ⟨n, hn, rfl, ⟨Ao, no, co, rfl⟩, hown, hbw⟩ := hrel
    have hbzw := b_then hbz2 hbw
    by_cases hlt : n < l.length
    · have hsn := oth_succ l k node n
      have Hsn := Lib.hid hsn
      clear hsn
      go_wp2_with fail
      refine (r07counts l k n node _ _ hk hlt (hl'.out.mono KEm.st hbzw)).mono ?_
      rintro e w5' ⟨rfl, hb5'⟩
      have hownI := own_below hown hb5'
      have hbwi : Below w2.heap.size w2 w5' := b_then hbw hb5'
      have hcl := oth_len l k node n
      have hbase : w2.heap.size ≤ w5'.heap.size := hbwi.size
      have Hs2 := Hsn.out
      rcases Bool.eq_false_or_eq_true (cntB (emD l k) k node n (emD l n)) with y | y
      · rw [y] at Hs2 ⊢
        simp only [if_true] at Hs2
        have Hs3 := Lib.hid Hs2
        clear Hs2 y Hsn hown
        go_wp2_with ((at_builtin; refine append_num (w0 := w2) w2.heap.size rfl (.tmp 119) (.tmp 121) 23 3 rfl Tryz.underlying23 infoInt' (.slice Ao no co) ((othTo l k node n).map fun (k : Nat) => (k : Int)) (n : Int) rfl rfl hownI hbwi hbase (by rw [List.length_map]; omega) ?_; intro v1 w1 hown1 hb1x hg1 hat1; obtain ⟨A2, c2, rfl⟩ := own_slice hown1))
        go_roundw
        case rel => exact ⟨n + 1, by omega, by go_num, ⟨_, _, _, rfl⟩, by rw [Hs3.out]; simpa using hown1, hb1x⟩
        case measure => simp [intOf]; omega
      · rw [y] at Hs2 ⊢
        simp only [Bool.false_eq_true, if_false] at Hs2
        have Hs3 := Lib.hid Hs2
        clear Hs2 y Hsn
        go_wp2
        go_roundw
        case rel => exact ⟨n + 1, by omega, by go_num, ⟨_, _, _, rfl⟩, by rw [Hs3.out]; exact hownI, hbwi⟩
        case measure => simp [intOf]; omega
    · obtain rfl : n = l.length := by omega
      have hcl := oth_len l k node l.length
      have hsl := own_sl hown (by rw [List.length_map]; unfold big; omega)
      go_wp2
      go_ret2
      exact ⟨_, rfl, by rw [HN2.out]; exact hsl, hbzw⟩
end Go.Proofs.YtpbhoeaadnemhaaGreat
