/- The reference: Received, Receivers. -/
import Derived.Test.YtpbhoeaadnemhaaGreatAirS
namespace Go.Proofs.YtpbhoeaadnemhaaGreat
open Go.RowKit Go.Shelf
set_option linter.unusedVariables false
set_option linter.unusedSimpArgs false
set_option maxHeartbeats 4000000
set_option maxRecDepth 100000
theorem r07busyV (l : List Em) (i : Nat) (node : Int) (lv : Value) (w : World) {c : Bool} (hi : i < l.length) (hl : SlV 4 KEm w lv l) (h : freeB l (emD l i) node = c) :
    Calls Tryz.prog 34 #[lv, .int .i64 i, .int .i64 node] w fun e w' => e = .returned (.bool (!c)) ∧ Below w.heap.size w w' := h ▸ r07busy l i node lv w hi hl
theorem r07Received (s : Site) (x : Spm) (l : List Em) (i node : Int) (v xv lv : Value) (w : World) (hs : SiteV w v s) (hx : SpmV w xv x) (hl : SlV 4 KEm w lv l) :
    Calls Tryz.prog 16 #[v, xv, lv, .int .i64 i, .int .i64 node] w fun e w' => e = .returned (.tuple #[.bool (rcvN s x l i node), .int .i64 (chkE s x l i node)]) ∧ Below w.heap.size w w' := by
  have hu := Tryz.underlying26
  have hu2 := Tryz.underlying30
  have hu3 := Tryz.underlying42
  obtain ⟨R, hR⟩ : ∃ R, chkE s x l i node = R := ⟨_, rfl⟩
  obtain ⟨N, hN⟩ : ∃ N, rcvN s x l i node = N := ⟨_, rfl⟩
  rw [hR, hN]
  have HR := Lib.hid hR
  have HN := Lib.hid hN
  clear hR hN
  have hs' := Lib.hid hs
  obtain ⟨v0, v1, v2, rfl, h0, h1, h2⟩ := hs
  obtain ⟨A0, c0, rfl, hc0, hm0, hr0⟩ := h0
  obtain ⟨A1, c1, rfl, hc1, hm1, hr1⟩ := h1
  obtain ⟨A2, c2, rfl, hc2, hm2, hr2⟩ := h2
  unfold big at hm0 hm1 hm2
  have hx' := Lib.hid hx
  obtain ⟨x0, x1, rfl, h3, h4⟩ := hx
  have H3 := Lib.hid h3
  have H4 := Lib.hid h4
  obtain ⟨A3, c3, rfl, hc3, hm3, hr3⟩ := h3
  obtain ⟨A4, c4, rfl, hc4, hm4, hr4⟩ := h4
  unfold big at hm3 hm4
  have hl' := Lib.hid hl
  obtain ⟨A5, c5, rfl, hc5, hm5, hr5⟩ := hl
  unfold big at hm5
  obtain ⟨W1, hW1⟩ : ∃ W : World, W = ((w.alloc (.cells #[.slice A0 s.nodes.length c0, .slice A1 s.powers.length c1, .slice A2 s.walls.length c2, .int .i64 s.ex, .int .i64 s.noise, .int .i64 s.thr] 26)).alloc (.cells #[.slice A3 x.srcs.length c3, .slice A4 x.fds.length c4] 30)) := ⟨_, rfl⟩; have hb1 : Below w.heap.size w W1 := (by rw [hW1]; (repeat (first | exact Below.refl _ _ | assumption | apply b_alloc | apply b_drewN | apply b_drew))); have q : ∀ wq : World, Below W1.heap.size W1 wq → wq.cell? ⟨w.heap.size, 0, none⟩ = some (.slice A0 s.nodes.length c0) ∧ wq.cell? ⟨w.heap.size, 1, none⟩ = some (.slice A1 s.powers.length c1) ∧ wq.cell? ⟨w.heap.size, 2, none⟩ = some (.slice A2 s.walls.length c2) ∧ wq.cell? ⟨w.heap.size, 3, none⟩ = some (.int .i64 s.ex) ∧ wq.cell? ⟨w.heap.size, 4, none⟩ = some (.int .i64 s.noise) ∧ wq.cell? ⟨w.heap.size, 5, none⟩ = some (.int .i64 s.thr) ∧ wq.cell? ⟨w.heap.size + 1, 0, none⟩ = some (.slice A3 x.srcs.length c3) ∧ wq.cell? ⟨w.heap.size + 1, 1, none⟩ = some (.slice A4 x.fds.length c4) := (fun wq hwr => ⟨cell_mono hwr (by rw [hW1]; go_simp), cell_mono hwr (by rw [hW1]; go_simp), cell_mono hwr (by rw [hW1]; go_simp), cell_mono hwr (by rw [hW1]; go_simp), cell_mono hwr (by rw [hW1]; go_simp), cell_mono hwr (by rw [hW1]; go_simp), cell_mono hwr (by rw [hW1]; go_simp), cell_mono hwr (by rw [hW1]; go_simp)⟩); have HW := Lib.hid hW1; clear hW1
  go_enter Tryz.func16, Tryz.ntmps16
  go_wp2_with fail
  rw [← HW.out]
  have hbA1 : Below W1.heap.size W1 W1 := Below.refl _ _
  refine (r07Interf s x l i node _ _ _ _ (hs'.out.mono hb1) (hx'.out.mono hb1) (hl'.out.mono KEm.st hb1)).mono ?_
  rintro e w2 ⟨rfl, hbA2⟩
  have hbz2 := b_then hb1 hbA2
  obtain ⟨l20, l21, l22, l23, l24, l25, l26, l27⟩ := q _ hbA2
  rw [HR.out]
  by_cases z : R = 0
  rotate_left
  · have g0 : (R == 0) = false := by simpa using z
    have g1 : (R != 0) = true := by simpa using z
    have zz : ¬ chkE s x l i node = 0 := fun h => z (HR.out.symm.trans h)
    have hN0 : N = false := by rw [← HN.out]; simp only [rcvN, if_neg zz]
    subst hN0
    generalize itfN s x l i node = I
    clear z zz
    go_wp2
    go_ret2
    exact ⟨rfl, hbz2⟩
  have zz : chkE s x l i node = 0 := HR.out.trans z
  obtain ⟨hE, hin, k, rfl, hk⟩ := chk_zero zz
  have hv := valid_of hE
  have hsv := hv.site
  have hlen := hv.len
  subst z
  have hNe : N = recvB s x l k node := by rw [← HN.out]; simp only [rcvN, zz, if_true, Int.toNat_natCast]
  have hIe : itfN s x l k node = intfI s x l k node := by simp only [itfN, zz, if_true, Int.toNat_natCast]
  have HNe := Lib.hid hNe
  rw [hIe]
  obtain ⟨b0, b1⟩ := intf_bd s x l k node l.length (by omega)
  have hb0 : 0 ≤ intfI s x l k node := b0
  have hb1' : intfI s x l k node ≤ 4535485464576 := b1
  obtain ⟨p0, p1⟩ := sig_bd s x (emD l k).node node (emD l k).ch (emD l k).frm
  have hrb : recvB s x l k node = (freeB l (emD l k) node && hearB s (sigI s x (emD l k) node) (intfI s x l k node)) := rfl
  have HRB := Lib.hid hrb
  have hdec : ∀ w', Calls Tryz.prog 35 #[.int .i64 (sigN s x (emD l k).node node (emD l k).ch (emD l k).frm), .int .i64 s.thr, .int .i64 s.noise, .int .i64 (intfI s x l k node)] w' fun e w'' => e = .returned (.bool (hearB s (sigI s x (emD l k) node) (intfI s x l k node))) ∧ Below w'.heap.size w' w'' :=
    fun w' => r04Decide s hsv (sigI s x (emD l k) node) (intfI s x l k node) p0 p1 hb0 hb1' w'
  have HDEC := Lib.hid hdec
  clear hE zz hin hNe hIe hv hb0 hb1' b0 b1 p0 p1 hrb hdec
  have hg := emD_get hk
  rcases Bool.eq_false_or_eq_true (freeB l (emD l k) node) with hf | hf
  all_goals
    have hrb := HRB.out
    rw [hf] at hrb
    have HRB2 := Lib.hid hrb
    have HF := Lib.hid hf
    clear hf hrb
    generalize intfI s x l k node = I at *
    have k0 : (0 : Int) ≤ (k : Int) := by omega
    have k1 : (k : Int) < (l.length : Int) := by omega
    obtain ⟨bl, off, hAe, e0, e1, e2, e3⟩ := hr5.em hbz2 hg
    subst hAe
    have E0 := Later.cell e0
    have E1 := Later.cell e1
    have E2 := Later.cell e2
    have E3 := Later.cell e3
    try clear l20 l21 l22 l23 l24 l25 l26 l27
    obtain ⟨m0, m1, m2, m3, m4, m5, m6, m7⟩ := q _ hbA2; have Lm0 := Later.cell m0; have Lm1 := Later.cell m1; have Lm2 := Later.cell m2; have Lm3 := Later.cell m3; have Lm4 := Later.cell m4; have Lm5 := Later.cell m5; have Lm6 := Later.cell m6; have Lm7 := Later.cell m7
    have hsL : ∀ z : Later w2, SiteV z.W (.agg #[.slice A0 s.nodes.length c0, .slice A1 s.powers.length c1, .slice A2 s.walls.length c2, .int .i64 s.ex, .int .i64 s.noise, .int .i64 s.thr]) s := fun z => hs'.out.mono (b_then hbz2 z.below)
    have hxL : ∀ z : Later w2, SpmV z.W (.agg #[.slice A3 x.srcs.length c3, .slice A4 x.fds.length c4]) x := fun z => hx'.out.mono (b_then hbz2 z.below)
    have HSL := Lib.hid hsL
    have HXL := Lib.hid hxL
    clear hg hsL hxL e0 e1 e2 e3
    go_wp2_with fail
    refine wp_region_later (by kernel_rfl) (by kernel_rfl) ?_
    repeat (go_big_quiet_step ((go_at_call 33; exact later_of (r06Signal s x _ _ (emD l k).node node (emD l k).ch (emD l k).frm _ (HSL.out _) (HXL.out _)))))
    refine wpQuiet_nil ?_
    rintro _ ⟨z, rfl⟩
    have hbA3 := b_then hbA2 z.below
    have hbz3 := b_then hb1 hbA3
    generalize z.W = w3 at *
    obtain ⟨n0, n1, n2, n3, n4, n5, n6, n7⟩ := q _ hbA3
    go_wp2_with fail
    refine (r07busyV l k node _ _ hk (hl'.out.mono KEm.st hbz3) HF.out).mono ?_
    rintro e w4 ⟨rfl, hb4⟩
    try clear n0 n1 n2 n3 n4 n5 n6 n7
    obtain ⟨o0, o1, o2, o3, o4, o5, o6, o7⟩ := q _ (b_then hbA3 hb4)
    have hbz4 := b_then hbz3 hb4
    simp only [Bool.not_true, Bool.not_false]
    go_wp2_with fail
  · refine (HDEC.out _).mono ?_
    rintro e w5 ⟨rfl, hb5⟩
    have hNf : N = hearB s (sigI s x (emD l k) node) I := by rw [HNe.out, HRB2.out, Bool.true_and]
    subst hNf
    go_wp2
    go_ret2
    exact ⟨rfl, b_then hbz4 hb5⟩
  · have hNf : N = false := by rw [HNe.out, HRB2.out, Bool.false_and]
    subst hNf
    go_wp2
    go_ret2
    exact ⟨rfl, hbz4⟩
theorem own_zero (w : World) : (w.alloc (.cells #[] 3)).ownsRow w.heap.size 3 1 (.slice (some ⟨w.heap.size, 0, none⟩) 0 0) 0 [] :=
  ⟨by simp, .inr ⟨_, _, #[], rfl, Nat.le_refl _, World.alloc_heap_new _ _, by omega, by first | omega | simp | decide | exact Nat.le_refl _, rfl, rfl⟩⟩
theorem r07Receivers (s : Site) (x : Spm) (l : List Em) (i : Int) (v xv lv : Value) (w : World) (hs : SiteV w v s) (hx : SpmV w xv x) (hl : SlV 4 KEm w lv l) :
    Calls Tryz.prog 18 #[v, xv, lv, .int .i64 i] w fun e w' => ∃ u, e = .returned (.tuple #[u, .int .i64 (chkE s x l i 0)]) ∧ SlV 1 KI w' u (rcsN s x l i) ∧ Below w.heap.size w w' := by
  have hu := Tryz.underlying26
  have hu2 := Tryz.underlying30
  have hu3 := Tryz.underlying42
  obtain ⟨R, hR⟩ : ∃ R, chkE s x l i 0 = R := ⟨_, rfl⟩
  obtain ⟨N, hN⟩ : ∃ N, rcsN s x l i = N := ⟨_, rfl⟩
  rw [hR, hN]
  have HR := Lib.hid hR
  have HN := Lib.hid hN
  clear hR hN
  have hs' := Lib.hid hs
  obtain ⟨v0, v1, v2, rfl, h0, h1, h2⟩ := hs
  obtain ⟨A0, c0, rfl, hc0, hm0, hr0⟩ := h0
  obtain ⟨A1, c1, rfl, hc1, hm1, hr1⟩ := h1
  obtain ⟨A2, c2, rfl, hc2, hm2, hr2⟩ := h2
  unfold big at hm0 hm1 hm2
  have hx' := Lib.hid hx
  obtain ⟨x0, x1, rfl, h3, h4⟩ := hx
  have H3 := Lib.hid h3
  have H4 := Lib.hid h4
  obtain ⟨A3, c3, rfl, hc3, hm3, hr3⟩ := h3
  obtain ⟨A4, c4, rfl, hc4, hm4, hr4⟩ := h4
  unfold big at hm3 hm4
  have hl' := Lib.hid hl
  obtain ⟨A5, c5, rfl, hc5, hm5, hr5⟩ := hl
  unfold big at hm5
  obtain ⟨W1, hW1⟩ : ∃ W : World, W = ((w.alloc (.cells #[.slice A0 s.nodes.length c0, .slice A1 s.powers.length c1, .slice A2 s.walls.length c2, .int .i64 s.ex, .int .i64 s.noise, .int .i64 s.thr] 26)).alloc (.cells #[.slice A3 x.srcs.length c3, .slice A4 x.fds.length c4] 30)) := ⟨_, rfl⟩; have hb1 : Below w.heap.size w W1 := (by rw [hW1]; (repeat (first | exact Below.refl _ _ | assumption | apply b_alloc | apply b_drewN | apply b_drew))); have q : ∀ wq : World, Below W1.heap.size W1 wq → wq.cell? ⟨w.heap.size, 0, none⟩ = some (.slice A0 s.nodes.length c0) ∧ wq.cell? ⟨w.heap.size, 1, none⟩ = some (.slice A1 s.powers.length c1) ∧ wq.cell? ⟨w.heap.size, 2, none⟩ = some (.slice A2 s.walls.length c2) ∧ wq.cell? ⟨w.heap.size, 3, none⟩ = some (.int .i64 s.ex) ∧ wq.cell? ⟨w.heap.size, 4, none⟩ = some (.int .i64 s.noise) ∧ wq.cell? ⟨w.heap.size, 5, none⟩ = some (.int .i64 s.thr) ∧ wq.cell? ⟨w.heap.size + 1, 0, none⟩ = some (.slice A3 x.srcs.length c3) ∧ wq.cell? ⟨w.heap.size + 1, 1, none⟩ = some (.slice A4 x.fds.length c4) := (fun wq hwr => ⟨cell_mono hwr (by rw [hW1]; go_simp), cell_mono hwr (by rw [hW1]; go_simp), cell_mono hwr (by rw [hW1]; go_simp), cell_mono hwr (by rw [hW1]; go_simp), cell_mono hwr (by rw [hW1]; go_simp), cell_mono hwr (by rw [hW1]; go_simp), cell_mono hwr (by rw [hW1]; go_simp), cell_mono hwr (by rw [hW1]; go_simp)⟩); have HW := Lib.hid hW1; clear hW1
  go_enter Tryz.func18, Tryz.ntmps18
  go_wp2_with fail
  rw [← HW.out]
  have hbA1 : Below W1.heap.size W1 W1 := Below.refl _ _
  refine (r07check s x l i 0 _ _ _ _ (hs'.out.mono hb1) (hx'.out.mono hb1) (hl'.out.mono KEm.st hb1)).mono ?_
  rintro e w2 ⟨rfl, hbA2⟩
  have hbz2 := b_then hb1 hbA2
  obtain ⟨l20, l21, l22, l23, l24, l25, l26, l27⟩ := q _ hbA2
  by_cases z : R = 0
  rotate_left
  · have g0 : (R == 0) = false := by simpa using z
    have g1 : (R != 0) = true := by simpa using z
    have zz : ¬ chkE s x l i 0 = 0 := fun h => z (HR.out.symm.trans h)
    have hN0 : N = [] := by rw [← HN.out]; simp only [rcsN, if_neg zz]
    subst hN0
    rw [HR.out]
    clear z zz
    go_wp2
    go_ret2
    exact ⟨_, rfl, ⟨none, 0, rfl, Nat.le_refl _, Nat.zero_le _, fun h => absurd rfl h⟩, hbz2⟩
  have zz : chkE s x l i 0 = 0 := HR.out.trans z
  obtain ⟨hE, hin, k0, rfl, hk0⟩ := chk_zero zz
  have hsv := (valid_of hE).site
  have hnl := (site_len hsv).2.1
  subst z
  have hNe : N = rcsI s x l k0 := by rw [← HN.out]; simp only [rcsN, zz, if_true, Int.toNat_natCast]
  rw [zz]
  have HNe := Lib.hid hNe
  have hRc : ∀ n : Nat, n < s.nodes.length → chkE s x l (k0 : Int) n = 0 ∧ rcvN s x l (k0 : Int) n = recvB s x l k0 n := fun n hn => by
    have h1 : chkE s x l (k0 : Int) n = 0 := by
      rw [chkE, if_pos hE, if_pos]
      rw [Bool.and_eq_true]
      exact ⟨by simp [ixB, hk0], by simp [inB, hn]⟩
    exact ⟨h1, by rw [rcvN, if_pos h1, Int.toNat_natCast]⟩
  have HRC := Lib.hid hRc
  clear hE zz hin hNe hRc
  go_wp2_with fail
  obtain ⟨W2, hW2⟩ : ∃ W2, W2 = w2.alloc (.cells #[] 3) := ⟨_, rfl⟩
  rw [← hW2]
  have hb22 : Below w2.heap.size w2 W2 := by rw [hW2]; (repeat (first | exact Below.refl _ _ | assumption | apply b_alloc | apply b_drewN | apply b_drew))
  have hown0 : W2.ownsRow w2.heap.size 3 1 (.slice (some ⟨w2.heap.size, 0, none⟩) 0 0) 0 [] := by rw [hW2]; exact own_zero w2
  have hbz3 := b_then hbz2 hb22
  have hbA3 := b_then hbA2 hb22
  have hsz : w2.heap.size ≤ W2.heap.size := hb22.size
  clear hW2
  try clear l20 l21 l22 l23 l24 l25 l26 l27
  go_loopw [11, 12] (fun o i wr => ∃ k : Nat, k ≤ s.nodes.length ∧ i = .int .i64 k ∧ (∃ A n c, o = .slice A n c) ∧ wr.ownsRow w2.heap.size 3 1 o (rcsTo s x l k0 k).length ((rcsTo s x l k0 k).map (Value.int .i64)) ∧ Below w2.heap.size w2 wr) (fun _ i _ => s.nodes.length - (intOf i).toNat)
  case atStart => exact ⟨0, Nat.zero_le _, rfl, ⟨_, _, _, rfl⟩, hown0, hb22⟩
  case round =>
    obtain ⟨k, hk, rfl, ⟨Ao, no, co, rfl⟩, hown, hbw⟩ := hrel
    have hbAw := b_then hbA2 hbw
    have hbzw := b_then hb1 hbAw
    obtain ⟨lb0, lb1, lb2, lb3, lb4, lb5, lb6, lb7⟩ := q _ hbAw
    by_cases hlt : k < s.nodes.length
    · have hsn := rcs_succ s x l k0 k
      have Hsn := Lib.hid hsn
      obtain ⟨hc1, hc2⟩ := HRC.out k hlt
      have hrc := r07Received s x l (k0 : Int) (k : Int) (.agg #[.slice A0 s.nodes.length c0, .slice A1 s.powers.length c1, .slice A2 s.walls.length c2, .int .i64 s.ex, .int .i64 s.noise, .int .i64 s.thr]) (.agg #[.slice A3 x.srcs.length c3, .slice A4 x.fds.length c4]) (.slice A5 l.length c5) wr (hs'.out.mono hbzw) (hx'.out.mono hbzw) (hl'.out.mono KEm.st hbzw)
      rw [hc1, hc2] at hrc
      have HRV := Lib.hid hrc
      clear hsn hc1 hc2 hrc
      go_wp2_with fail
      refine HRV.out.mono ?_
      rintro e w5 ⟨rfl, hb5⟩
      have hownI := own_below hown hb5
      have hbwi : Below w2.heap.size w2 w5 := b_then hbw hb5
      have hcl := rcs_len s x l k0 k
      have hbase : w2.heap.size ≤ w5.heap.size := hbwi.size
      have Hs2 := Hsn.out
      rcases Bool.eq_false_or_eq_true (recvB s x l k0 k) with y | y
      · rw [y] at Hs2 ⊢
        simp only [if_true] at Hs2
        have Hs3 := Lib.hid Hs2
        clear Hs2 y Hsn hown
        go_wp2_with ((at_builtin; refine append_num (w0 := w2) w2.heap.size rfl (.tmp 41) (.tmp 43) 23 3 rfl Tryz.underlying23 infoInt' (.slice Ao no co) (rcsTo s x l k0 k) (k : Int) rfl rfl hownI hbwi hbase (by omega) ?_; intro v1 w1 hown1 hb1x hg1 hat1; obtain ⟨A2, c2, rfl⟩ := own_slice hown1))
        go_roundw
        case rel => exact ⟨k + 1, by omega, by go_num, ⟨_, _, _, rfl⟩, by rw [Hs3.out]; simpa using hown1, hb1x⟩
        case measure => simp [intOf]; omega
      · rw [y] at Hs2 ⊢
        simp only [Bool.false_eq_true, if_false] at Hs2
        have Hs3 := Lib.hid Hs2
        clear Hs2 y Hsn
        go_wp2
        go_roundw
        case rel => exact ⟨k + 1, by omega, by go_num, ⟨_, _, _, rfl⟩, by rw [Hs3.out]; exact hownI, hbwi⟩
        case measure => simp [intOf]; omega
    · obtain rfl : k = s.nodes.length := by omega
      have hcl := rcs_len s x l k0 s.nodes.length
      have hsl := own_sl hown (by unfold big; omega)
      go_wp2
      go_ret2
      exact ⟨_, rfl, by rw [HNe.out]; exact hsl, hbzw⟩
end Go.Proofs.YtpbhoeaadnemhaaGreat
