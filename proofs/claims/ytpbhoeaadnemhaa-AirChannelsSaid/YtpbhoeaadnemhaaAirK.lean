/- The law function: windows. -/
import Derived.Test.YtpbhoeaadnemhaaAirJ
namespace Go.Proofs.Ytpbhoeaadnemhaa
open Go.RowKit Go.Shelf
attribute [local go_sem high] max2_mx min2_mn max_two min_two
set_option linter.unusedVariables false
set_option linter.unusedSimpArgs false
set_option maxHeartbeats 4000000
set_option maxRecDepth 100000
def widerL (y : Lis) (wd : Int) : Lis := ⟨y.node, y.ch, max (y.frm - wd) 0, min (y.to + wd) 1099511627776⟩
theorem hear_zero {s : Site} {x : Spm} {l : List Em} {y : Lis} (h : hearE s x l y = 0) : airE s x l = 0 ∧ inB s y.node = true ∧ chB y.ch = true ∧ ivB y.frm y.to = true := by
  unfold hearE at h
  split at h
  · rename_i h1
    split at h
    · rename_i h2
      split at h
      · rename_i h3
        rw [Bool.and_eq_true] at h3
        exact ⟨h1, h2, h3.1, h3.2⟩
      · cases h
    · cases h
  · rename_i h1; exact absurd h h1
theorem wider_zero {s : Site} {x : Spm} {l : List Em} {y : Lis} {wd : Int} (h : hearE s x l y = 0) (h0 : 0 ≤ wd) : hearE s x l (widerL y wd) = 0 := by
  obtain ⟨h1, h2, h3, h4⟩ := hear_zero h
  obtain ⟨i0, i1, i2⟩ := ivB_is h4
  unfold hearE
  rw [if_pos h1, if_pos (by exact h2), if_pos]
  rw [Bool.and_eq_true]
  refine ⟨h3, ?_⟩
  show ivB (max (y.frm - wd) 0) (min (y.to + wd) 1099511627776) = true
  unfold ivB
  rw [Bool.and_eq_true, Bool.and_eq_true, decide_eq_true_eq, decide_eq_true_eq, decide_eq_true_eq]
  omega
theorem wider_spec {s : Site} {x : Spm} {l : List Em} {y : Lis} {wd : Int} (h : hearE s x l y = 0) (h0 : 0 ≤ wd) :
    (bestTo (winP s x l y) l l.length = -1 ∧ heardB s x l y = false ∧ hearN s x l y = 0) ∨
    (∃ b c : Nat, bestTo (winP s x l y) l l.length = b ∧ b < l.length ∧ heardB s x l y = true ∧ hearN s x l y = b ∧ heardB s x l (widerL y wd) = true ∧ hearN s x l (widerL y wd) = c ∧ c < l.length ∧ (emD l c).frm ≤ (emD l b).frm) := by
  have hz := wider_zero (wd := wd) h h0
  obtain ⟨_, _, _, h4⟩ := hear_zero h
  obtain ⟨i0, i1, i2⟩ := ivB_is h4
  rcases best_spec (winP s x l y) l l.length with ⟨h1, _⟩ | ⟨b, h1, h2, h3, _⟩
  · exact .inl ⟨h1, by simp [heardB, h, bestI, h1], by simp only [hearN, h, if_true, bestI, h1]; decide⟩
  · right
    have hw := best_wider (p := winP s x l y) (q := winP s x l (widerL y wd)) (l := l) (n := l.length) (fun k hk hp => by
      simp only [winP, inWin, Bool.and_eq_true, decide_eq_true_eq] at hp ⊢
      obtain ⟨⟨⟨p1, p2⟩, p3⟩, p4⟩ := hp
      refine ⟨⟨⟨p1, ?_⟩, ?_⟩, p4⟩
      · simp only [widerL]; omega
      · simp only [widerL]; omega) (by omega)
    obtain ⟨w1, w2, w3⟩ := hw
    refine ⟨b, (bestTo (winP s x l (widerL y wd)) l l.length).toNat, h1, h2, ?_, ?_, ?_, ?_, by omega, ?_⟩
    · simp [heardB, h, bestI, h1]
    · simp only [hearN, h, if_true, bestI, h1]; omega
    · simp only [heardB, hz, if_true, bestI]; exact decide_eq_true w1
    · simp only [hearN, hz, if_true, bestI]; omega
    · rw [h1] at w3; simpa using w3
theorem best_ge (p : Nat → Bool) (l : List Em) (n : Nat) : -1 ≤ bestTo p l n ∧ bestTo p l n < n := by
  rcases best_spec p l n with ⟨h, _⟩ | ⟨b, h, h2, _⟩ <;> omega
theorem lWindows (s : Site) (x : Spm) (l : List Em) (v : Value) (y : Lis) (wd : Int) (w : World) (h : ScnV w v s x l) (hwd : 0 ≤ wd ∧ wd < 65536) :
    Calls Try.prog 4 #[v, .agg #[.int .i64 (y).node, .int .i64 (y).ch, .int .i64 (y).frm, .int .i64 (y).to], .int .u16 wd] w fun e w' => e = .returned (.bool true) ∧ Below w.heap.size w w' := by
  have hu := Try.underlying26
  have hu2 := Try.underlying30
  have hu3 := Try.underlying35
  have hu4 := Try.underlying33
  have hu5 := Try.underlying43
  obtain ⟨A0, c0, A1, c1, A2, c2, A3, c3, A4, c4, A5, c5, rfl, hs, hx, hl⟩ := h
  have hs' := Lib.hid hs
  have hx' := Lib.hid hx
  have hl' := Lib.hid hl
  obtain ⟨_, _, e5, hc5, hm5, hr5⟩ := hl
  cases e5
  unfold big at hm5
  clear hs hx
  obtain ⟨W1, hW1⟩ : ∃ W : World, W = ((w.alloc (.cells #[.slice A0 s.nodes.length c0, .slice A1 s.powers.length c1, .slice A2 s.walls.length c2, .int .i64 s.ex, .int .i64 s.noise, .int .i64 s.thr, .slice A3 x.srcs.length c3, .slice A4 x.fds.length c4, .slice A5 l.length c5] 33)).alloc (.cells #[.int .i64 y.node, .int .i64 y.ch, .int .i64 y.frm, .int .i64 y.to] 43)) := ⟨_, rfl⟩; have hb1 : Below w.heap.size w W1 := (by rw [hW1]; (repeat (first | exact Below.refl _ _ | assumption | apply b_alloc | apply b_drewN | apply b_drew))); have q : ∀ wq : World, Below W1.heap.size W1 wq → wq.cell? ⟨w.heap.size, 0, none⟩ = some (.slice A0 s.nodes.length c0) ∧ wq.cell? ⟨w.heap.size, 1, none⟩ = some (.slice A1 s.powers.length c1) ∧ wq.cell? ⟨w.heap.size, 2, none⟩ = some (.slice A2 s.walls.length c2) ∧ wq.cell? ⟨w.heap.size, 3, none⟩ = some (.int .i64 s.ex) ∧ wq.cell? ⟨w.heap.size, 4, none⟩ = some (.int .i64 s.noise) ∧ wq.cell? ⟨w.heap.size, 5, none⟩ = some (.int .i64 s.thr) ∧ wq.cell? ⟨w.heap.size, 6, none⟩ = some (.slice A3 x.srcs.length c3) ∧ wq.cell? ⟨w.heap.size, 7, none⟩ = some (.slice A4 x.fds.length c4) ∧ wq.cell? ⟨w.heap.size, 8, none⟩ = some (.slice A5 l.length c5) ∧ wq.cell? ⟨w.heap.size + 1, 0, none⟩ = some (.int .i64 y.node) ∧ wq.cell? ⟨w.heap.size + 1, 1, none⟩ = some (.int .i64 y.ch) ∧ wq.cell? ⟨w.heap.size + 1, 2, none⟩ = some (.int .i64 y.frm) ∧ wq.cell? ⟨w.heap.size + 1, 3, none⟩ = some (.int .i64 y.to) := (fun wq hwr => ⟨cell_mono hwr (by rw [hW1]; go_simp), cell_mono hwr (by rw [hW1]; go_simp), cell_mono hwr (by rw [hW1]; go_simp), cell_mono hwr (by rw [hW1]; go_simp), cell_mono hwr (by rw [hW1]; go_simp), cell_mono hwr (by rw [hW1]; go_simp), cell_mono hwr (by rw [hW1]; go_simp), cell_mono hwr (by rw [hW1]; go_simp), cell_mono hwr (by rw [hW1]; go_simp), cell_mono hwr (by rw [hW1]; go_simp), cell_mono hwr (by rw [hW1]; go_simp), cell_mono hwr (by rw [hW1]; go_simp), cell_mono hwr (by rw [hW1]; go_simp)⟩); have HW := Lib.hid hW1; clear hW1
  go_enter Try.func4, Try.ntmps4
  go_wp2_with fail
  rw [← HW.out]
  refine (awake _).mono ?_
  rintro e w2 ⟨rfl, hb2⟩
  have hbz2 := b_then hb1 hb2
  obtain ⟨l20, l21, l22, l23, l24, l25, l26, l27, l28, l29, l210, l211, l212⟩ := q _ hb2
  go_wp2_with fail
  refine (lFew s x l _ (hs'.out.mono hbz2) (hx'.out.mono hbz2) (hl'.out.mono KEm.st hbz2)).mono ?_
  rintro e w3 ⟨rfl, hb3⟩
  have hbA3 := b_then hb2 hb3
  have hbz3 := b_then hb1 hbA3
  try clear l20 l21 l22 l23 l24 l25 l26 l27 l28 l29 l210 l211 l212
  obtain ⟨l30, l31, l32, l33, l34, l35, l36, l37, l38, l39, l310, l311, l312⟩ := q _ hbA3
  rcases Bool.eq_false_or_eq_true (fewS s x l) with q1 | q1
  rotate_left
  · rw [q1]
    go_wp2
    go_ret
    exact ⟨rfl, hbz3⟩
  rw [q1]
  have hlen : l.length ≤ 50 := few_len q1
  clear q1
  have ks : ∀ w', Below w3.heap.size w3 w' → (Below w3.heap.size w3 w' ∧ (w'.cell? ⟨w.heap.size, 0, none⟩ = some (.slice A0 s.nodes.length c0) ∧ w'.cell? ⟨w.heap.size, 1, none⟩ = some (.slice A1 s.powers.length c1) ∧ w'.cell? ⟨w.heap.size, 2, none⟩ = some (.slice A2 s.walls.length c2) ∧ w'.cell? ⟨w.heap.size, 3, none⟩ = some (.int .i64 s.ex) ∧ w'.cell? ⟨w.heap.size, 4, none⟩ = some (.int .i64 s.noise) ∧ w'.cell? ⟨w.heap.size, 5, none⟩ = some (.int .i64 s.thr) ∧ w'.cell? ⟨w.heap.size, 6, none⟩ = some (.slice A3 x.srcs.length c3) ∧ w'.cell? ⟨w.heap.size, 7, none⟩ = some (.slice A4 x.fds.length c4) ∧ w'.cell? ⟨w.heap.size, 8, none⟩ = some (.slice A5 l.length c5) ∧ w'.cell? ⟨w.heap.size + 1, 0, none⟩ = some (.int .i64 y.node) ∧ w'.cell? ⟨w.heap.size + 1, 1, none⟩ = some (.int .i64 y.ch) ∧ w'.cell? ⟨w.heap.size + 1, 2, none⟩ = some (.int .i64 y.frm) ∧ w'.cell? ⟨w.heap.size + 1, 3, none⟩ = some (.int .i64 y.to))) := fun w' h => ⟨h, q _ (b_then hbA3 h)⟩
  have KS := Lib.hid ks
  clear ks
  have hsL : ∀ w', Below w3.heap.size w3 w' → SiteV w' (.agg #[.slice A0 s.nodes.length c0, .slice A1 s.powers.length c1, .slice A2 s.walls.length c2, .int .i64 s.ex, .int .i64 s.noise, .int .i64 s.thr]) s := fun w' h => hs'.out.mono (b_then hbz3 h)
  have hxL : ∀ w', Below w3.heap.size w3 w' → SpmV w' (.agg #[.slice A3 x.srcs.length c3, .slice A4 x.fds.length c4]) x := fun w' h => hx'.out.mono (b_then hbz3 h)
  have hlL : ∀ w', Below w3.heap.size w3 w' → SlV 4 KEm w' (.slice A5 l.length c5) l := fun w' h => hl'.out.mono KEm.st (b_then hbz3 h)
  have HS := Lib.hid hsL
  have HX := Lib.hid hxL
  have HL := Lib.hid hlL
  clear hsL hxL hlL
  go_wp2_with fail
  go_region_held3 (fun w' => Below w3.heap.size w3 w' ∧ (w'.cell? ⟨w.heap.size, 0, none⟩ = some (.slice A0 s.nodes.length c0) ∧ w'.cell? ⟨w.heap.size, 1, none⟩ = some (.slice A1 s.powers.length c1) ∧ w'.cell? ⟨w.heap.size, 2, none⟩ = some (.slice A2 s.walls.length c2) ∧ w'.cell? ⟨w.heap.size, 3, none⟩ = some (.int .i64 s.ex) ∧ w'.cell? ⟨w.heap.size, 4, none⟩ = some (.int .i64 s.noise) ∧ w'.cell? ⟨w.heap.size, 5, none⟩ = some (.int .i64 s.thr) ∧ w'.cell? ⟨w.heap.size, 6, none⟩ = some (.slice A3 x.srcs.length c3) ∧ w'.cell? ⟨w.heap.size, 7, none⟩ = some (.slice A4 x.fds.length c4) ∧ w'.cell? ⟨w.heap.size, 8, none⟩ = some (.slice A5 l.length c5) ∧ w'.cell? ⟨w.heap.size + 1, 0, none⟩ = some (.int .i64 y.node) ∧ w'.cell? ⟨w.heap.size + 1, 1, none⟩ = some (.int .i64 y.ch) ∧ w'.cell? ⟨w.heap.size + 1, 2, none⟩ = some (.int .i64 y.frm) ∧ w'.cell? ⟨w.heap.size + 1, 3, none⟩ = some (.int .i64 y.to)))
    ((refine KS.out _ ?_; first | with_reducible exact b_drew (Below.refl _ _) | with_reducible exact b_then (And.left (by assumption)) hbq))
    (first
      | (go_at_call 12; refine (cloneS l _ _ (HL.out _ (And.left (by assumption))) (by omega)).mono ?_; rintro e w7 ⟨u, rfl, hcl, hbq⟩; obtain ⟨AC, cC, rfl, _⟩ := id hcl)
      | (go_at_call 16; refine (aHear s x l y _ _ _ _ (HS.out _ (And.left (by assumption))) (HX.out _ (And.left (by assumption))) hcl).mono ?_; rintro e w4 ⟨rfl, hbq⟩)
      | fail)
  have hbA4 : Below w3.heap.size w3 w4 := And.left (by assumption)
  have hbB4 := b_then hbA3 hbA4
  have hbz4 := b_then hb1 hbB4
  try clear l30 l31 l32 l33 l34 l35 l36 l37 l38 l39 l310 l311 l312
  obtain ⟨l40, l41, l42, l43, l44, l45, l46, l47, l48, l49, l410, l411, l412⟩ := q _ hbB4
  by_cases z : hearE s x l y = 0
  rotate_left
  · have hN : hearN s x l y = 0 := by simp [hearN, z]
    have hG : heardB s x l y = false := by simp [heardB, z]
    have g0 : (hearE s x l y == 0) = false := by simpa using z
    have g1 : (hearE s x l y != 0) = true := by simpa using z
    rw [hN, hG]
    clear z
    go_wp2
    go_ret
    exact ⟨rfl, hbz4⟩
  obtain ⟨he0, hin, _, hiv⟩ := hear_zero z
  obtain ⟨y0, y1, y2⟩ := ivB_is hiv
  have HSP := Lib.hid (wider_spec (wd := wd) z hwd.1)
  have HWZ := Lib.hid (wider_zero (wd := wd) z hwd.1)
  have HE0 := Lib.hid he0
  have HIN := Lib.hid hin
  rw [z]
  clear z he0 hin hiv
  generalize hN : hearN s x l y = N at *
  generalize hG : heardB s x l y = G at *
  clear hN hG
  go_wp2_with fail
  go_loopw [10, 48] (fun f i wr => ∃ k : Nat, k ≤ l.length ∧ i = .int .i64 k ∧ f = .int .i64 (bestTo (winP s x l y) l k) ∧ Below w4.heap.size w4 wr) (fun _ i _ => l.length - (intOf i).toNat)
  case atStart => exact ⟨0, Nat.zero_le _, rfl, rfl, Below.refl _ _⟩
  case round =>
    obtain ⟨k, hk, rfl, rfl, hbw⟩ := hrel
    by_cases hlt : k < l.length
    · have hx0 := emD_get hlt
      obtain ⟨e, he⟩ : ∃ e, emD l k = e := ⟨_, rfl⟩
      rw [he] at hx0
      have HEM := Lib.hid he
      obtain ⟨bl, off, hAe, e0, e1, e2, e3⟩ := hr5.em (b_then hbz4 hbw) hx0
      subst hAe
      have k0 : (0 : Int) ≤ (k : Int) := by omega
      have k1 : (k : Int) < (l.length : Int) := by omega
      have hE : chkE s x l k y.node = 0 := by simp [chkE, HE0.out, ixB, HIN.out, hlt]
      have hRc : rcvN s x l k y.node = recvB s x l k y.node := by simp [rcvN, hE]
      have HE := Lib.hid hE
      have HRC := Lib.hid hRc
      obtain ⟨Wn, hWn⟩ : ∃ W : World, W = (wr.alloc (.cells #[.int .i64 (e).node, .int .i64 (e).ch, .int .i64 (e).frm, .int .i64 (e).to] 35)) := ⟨_, rfl⟩; have hbn : Below wr.heap.size wr Wn := (by rw [hWn]; (repeat (first | exact Below.refl _ _ | assumption | apply b_alloc | apply b_drewN | apply b_drew))); have qn : ∀ wq : World, Below Wn.heap.size Wn wq → wq.cell? ⟨wr.heap.size, 0, none⟩ = some (.int .i64 (e).node) ∧ wq.cell? ⟨wr.heap.size, 1, none⟩ = some (.int .i64 (e).ch) ∧ wq.cell? ⟨wr.heap.size, 2, none⟩ = some (.int .i64 (e).frm) ∧ wq.cell? ⟨wr.heap.size, 3, none⟩ = some (.int .i64 (e).to) := (fun wq hwr => ⟨cell_mono hwr (by rw [hWn]; go_simp), cell_mono hwr (by rw [hWn]; go_simp), cell_mono hwr (by rw [hWn]; go_simp), cell_mono hwr (by rw [hWn]; go_simp)⟩); have HWn := Lib.hid hWn; clear hWn
      have hbBn := b_then hbB4 (b_then hbw hbn)
      have hbzn := b_then hb1 hbBn
      have ks : ∀ w', Below Wn.heap.size Wn w' → (Below Wn.heap.size Wn w' ∧ (w'.cell? ⟨w.heap.size, 0, none⟩ = some (.slice A0 s.nodes.length c0) ∧ w'.cell? ⟨w.heap.size, 1, none⟩ = some (.slice A1 s.powers.length c1) ∧ w'.cell? ⟨w.heap.size, 2, none⟩ = some (.slice A2 s.walls.length c2) ∧ w'.cell? ⟨w.heap.size, 3, none⟩ = some (.int .i64 s.ex) ∧ w'.cell? ⟨w.heap.size, 4, none⟩ = some (.int .i64 s.noise) ∧ w'.cell? ⟨w.heap.size, 5, none⟩ = some (.int .i64 s.thr) ∧ w'.cell? ⟨w.heap.size, 6, none⟩ = some (.slice A3 x.srcs.length c3) ∧ w'.cell? ⟨w.heap.size, 7, none⟩ = some (.slice A4 x.fds.length c4) ∧ w'.cell? ⟨w.heap.size, 8, none⟩ = some (.slice (some ⟨bl, off, none⟩) l.length c5) ∧ w'.cell? ⟨w.heap.size + 1, 0, none⟩ = some (.int .i64 y.node) ∧ w'.cell? ⟨w.heap.size + 1, 1, none⟩ = some (.int .i64 y.ch) ∧ w'.cell? ⟨w.heap.size + 1, 2, none⟩ = some (.int .i64 y.frm) ∧ w'.cell? ⟨w.heap.size + 1, 3, none⟩ = some (.int .i64 y.to))) := fun w' h => ⟨h, q _ (b_then hbBn h)⟩
      have KS := Lib.hid ks
      clear ks
      have hsL : ∀ w', Below Wn.heap.size Wn w' → SiteV w' (.agg #[.slice A0 s.nodes.length c0, .slice A1 s.powers.length c1, .slice A2 s.walls.length c2, .int .i64 s.ex, .int .i64 s.noise, .int .i64 s.thr]) s := fun w' h => hs'.out.mono (b_then hbzn h)
      have hxL : ∀ w', Below Wn.heap.size Wn w' → SpmV w' (.agg #[.slice A3 x.srcs.length c3, .slice A4 x.fds.length c4]) x := fun w' h => hx'.out.mono (b_then hbzn h)
      have hlL : ∀ w', Below Wn.heap.size Wn w' → SlV 4 KEm w' (.slice (some ⟨bl, off, none⟩) l.length c5) l := fun w' h => hl'.out.mono KEm.st (b_then hbzn h)
      have HS := Lib.hid hsL
      have HX := Lib.hid hxL
      have HL := Lib.hid hlL
      clear hsL hxL hlL
      try clear l40 l41 l42 l43 l44 l45 l46 l47 l48 l49 l410 l411 l412
      obtain ⟨l50, l51, l52, l53, l54, l55, l56, l57, l58, l59, l510, l511, l512⟩ := q _ (b_then hbB4 hbw)
      clear hE hRc he
      go_wp2_with fail
      rw [← HWn.out]
      go_region_held3 (fun w' => Below Wn.heap.size Wn w' ∧ (w'.cell? ⟨w.heap.size, 0, none⟩ = some (.slice A0 s.nodes.length c0) ∧ w'.cell? ⟨w.heap.size, 1, none⟩ = some (.slice A1 s.powers.length c1) ∧ w'.cell? ⟨w.heap.size, 2, none⟩ = some (.slice A2 s.walls.length c2) ∧ w'.cell? ⟨w.heap.size, 3, none⟩ = some (.int .i64 s.ex) ∧ w'.cell? ⟨w.heap.size, 4, none⟩ = some (.int .i64 s.noise) ∧ w'.cell? ⟨w.heap.size, 5, none⟩ = some (.int .i64 s.thr) ∧ w'.cell? ⟨w.heap.size, 6, none⟩ = some (.slice A3 x.srcs.length c3) ∧ w'.cell? ⟨w.heap.size, 7, none⟩ = some (.slice A4 x.fds.length c4) ∧ w'.cell? ⟨w.heap.size, 8, none⟩ = some (.slice (some ⟨bl, off, none⟩) l.length c5) ∧ w'.cell? ⟨w.heap.size + 1, 0, none⟩ = some (.int .i64 y.node) ∧ w'.cell? ⟨w.heap.size + 1, 1, none⟩ = some (.int .i64 y.ch) ∧ w'.cell? ⟨w.heap.size + 1, 2, none⟩ = some (.int .i64 y.frm) ∧ w'.cell? ⟨w.heap.size + 1, 3, none⟩ = some (.int .i64 y.to)))
        ((refine KS.out _ ?_; first | with_reducible exact b_drew (Below.refl _ _) | with_reducible exact b_then (And.left (by assumption)) hbq))
        (first
          | (go_at_call 12; refine (cloneS l _ _ (HL.out _ (And.left (by assumption))) (by omega)).mono ?_; rintro e7 w7 ⟨u, rfl, hcl, hbq⟩; obtain ⟨AC, cC, rfl, _⟩ := id hcl)
          | (go_at_call 17; refine (aReceivedE (HS.out _ (And.left (by assumption))) (HX.out _ (And.left (by assumption))) hcl HE.out HRC.out).mono ?_; rintro e6 w6 ⟨rfl, hbq⟩)
          | fail)
      have hbA6 : Below Wn.heap.size Wn w6 := And.left (by assumption)
      have hbB6 := b_then hbBn hbA6
      have hbz6 := b_then hb1 hbB6
      try clear l50 l51 l52 l53 l54 l55 l56 l57 l58 l59 l510 l511 l512
      obtain ⟨l60, l61, l62, l63, l64, l65, l66, l67, l68, l69, l610, l611, l612⟩ := q _ hbB6; have Ll60 := Later.cell l60; have Ll61 := Later.cell l61; have Ll62 := Later.cell l62; have Ll63 := Later.cell l63; have Ll64 := Later.cell l64; have Ll65 := Later.cell l65; have Ll66 := Later.cell l66; have Ll67 := Later.cell l67; have Ll68 := Later.cell l68; have Ll69 := Later.cell l69; have Ll610 := Later.cell l610; have Ll611 := Later.cell l611; have Ll612 := Later.cell l612
      obtain ⟨m0, m1, m2, m3⟩ := qn _ hbA6; have Lm0 := Later.cell m0; have Lm1 := Later.cell m1; have Lm2 := Later.cell m2; have Lm3 := Later.cell m3
      have hbL : Below w4.heap.size w4 w6 := b_then (b_then hbw hbn) hbA6
      clear e0 e1 e2 e3
      have hto : ∀ (b : Nat) (eb : Em), l[b]? = some eb → ∀ z : Later w6, z.W.cell? ⟨bl, off + b * 4 + 2, none⟩ = some (.int .i64 eb.frm) := fun b eb h z => by
        obtain ⟨_, _, hAe, _, _, f2, _⟩ := hr5.em (b_then hbz6 z.below) h
        cases hAe
        exact f2
      have HTO := Lib.hid hto
      clear hto
      rcases Bool.eq_false_or_eq_true (recvB s x l k y.node) with rc | rc
      rotate_left
      · have hst : bestTo (winP s x l y) l (k + 1) = bestTo (winP s x l y) l k := best_stay (.inl (by simp [winP, rc]))
        have HST := Lib.hid hst
        clear hst
        rw [rc]
        clear rc
        generalize hB : bestTo (winP s x l y) l k = bb at *
        go_wp2_with fail
        refine wp_region_later (by kernel_rfl) (by kernel_rfl) ?_
        repeat (go_big_quiet_step (fail))
        refine wpQuiet_nil ?_
        rintro _ ⟨zz, rfl⟩
        have hbz9 := b_then hbL zz.below
        go_wp2
        go_roundw
        case rel => exact ⟨k + 1, by omega, by go_num, by rw [HST.out], hbz9⟩
        case measure => simp [intOf]; omega
      rw [rc]
      have HRc := Lib.hid rc
      clear rc
      rcases best_spec (winP s x l y) l k with ⟨hb, _⟩ | ⟨b, hb, hbk, _, _⟩
      · have HBT := Lib.hid hb
        rw [hb]
        clear hb
        have z0 : decide ((-1 : Int) < 0) = true := by decide
        by_cases q1 : e.ch = y.ch
        rotate_left
        · have g1 : (e.ch == y.ch) = false := by simpa using q1
          have hst : bestTo (winP s x l y) l (k + 1) = bestTo (winP s x l y) l k := best_stay (.inl (by simp [winP, inWin, HEM.out, q1]))
          have HST := Lib.hid hst
          clear hst
          clear q1
          go_wp2_with fail
          refine wp_region_later (by kernel_rfl) (by kernel_rfl) ?_
          repeat (go_big_quiet_step (fail))
          refine wpQuiet_nil ?_
          rintro _ ⟨zz, rfl⟩
          have hbz9 := b_then hbL zz.below
          go_wp2
          go_roundw
          case rel => exact ⟨k + 1, by omega, by go_num, by rw [HST.out, HBT.out], hbz9⟩
          case measure => simp [intOf]; omega
        have g1 : (e.ch == y.ch) = true := by simpa using q1
        by_cases q2 : y.frm ≤ e.frm
        rotate_left
        · have g2 : decide (y.frm ≤ e.frm) = false := by simp; omega
          have hst : bestTo (winP s x l y) l (k + 1) = bestTo (winP s x l y) l k := best_stay (.inl (by simp [winP, inWin, HEM.out, q2]))
          have HST := Lib.hid hst
          clear hst
          clear q1 q2
          go_wp2_with fail
          refine wp_region_later (by kernel_rfl) (by kernel_rfl) ?_
          repeat (go_big_quiet_step (fail))
          refine wpQuiet_nil ?_
          rintro _ ⟨zz, rfl⟩
          have hbz9 := b_then hbL zz.below
          go_wp2
          go_roundw
          case rel => exact ⟨k + 1, by omega, by go_num, by rw [HST.out, HBT.out], hbz9⟩
          case measure => simp [intOf]; omega
        have g2 : decide (y.frm ≤ e.frm) = true := by simp; omega
        by_cases q3 : e.frm ≤ y.to
        rotate_left
        · have g3 : decide (e.frm ≤ y.to) = false := by simp; omega
          have hst : bestTo (winP s x l y) l (k + 1) = bestTo (winP s x l y) l k := best_stay (.inl (by simp [winP, inWin, HEM.out, q3]))
          have HST := Lib.hid hst
          clear hst
          clear q1 q2 q3
          go_wp2_with fail
          refine wp_region_later (by kernel_rfl) (by kernel_rfl) ?_
          repeat (go_big_quiet_step (fail))
          refine wpQuiet_nil ?_
          rintro _ ⟨zz, rfl⟩
          have hbz9 := b_then hbL zz.below
          go_wp2
          go_roundw
          case rel => exact ⟨k + 1, by omega, by go_num, by rw [HST.out, HBT.out], hbz9⟩
          case measure => simp [intOf]; omega
        have g3 : decide (e.frm ≤ y.to) = true := by simp; omega
        have hiw : inWin y e = true := by simp [inWin, q1, q2, q3]
        have HIW := Lib.hid hiw
        clear hiw q1 q2 q3
        have hst : bestTo (winP s x l y) l (k + 1) = k := best_take (by simp [winP, HEM.out, HIW.out, HRc.out]) (.inl (by rw [HBT.out]; decide))
        have HST := Lib.hid hst
        clear hst
        go_wp2_with fail
        refine wp_region_later (by kernel_rfl) (by kernel_rfl) ?_
        repeat (go_big_quiet_step (fail))
        refine wpQuiet_nil ?_
        rintro _ ⟨zz, rfl⟩
        have hbz9 := b_then hbL zz.below
        go_wp2
        go_roundw
        case rel => exact ⟨k + 1, by omega, by go_num, by rw [HST.out], hbz9⟩
        case measure => simp [intOf]; omega
      · have HBT := Lib.hid hb
        have z0 : decide ((b : Int) < 0) = false := by simp
        have b0 : (0 : Int) ≤ (b : Int) := by omega
        have b1 : (b : Int) < (l.length : Int) := by omega
        have hgb := emD_get (l := l) (i := b) (by omega)
        obtain ⟨eb, heb⟩ : ∃ eb, emD l b = eb := ⟨_, rfl⟩
        rw [heb] at hgb
        have F2 := HTO.out _ _ hgb
        rw [hb]
        clear hgb
        by_cases q1 : e.ch = y.ch
        rotate_left
        · have g1 : (e.ch == y.ch) = false := by simpa using q1
          have hst : bestTo (winP s x l y) l (k + 1) = bestTo (winP s x l y) l k := best_stay (.inl (by simp [winP, inWin, HEM.out, q1]))
          have HST := Lib.hid hst
          clear hst
          clear q1
          go_wp2_with fail
          refine wp_region_later (by kernel_rfl) (by kernel_rfl) ?_
          repeat (go_big_quiet_step (fail))
          refine wpQuiet_nil ?_
          rintro _ ⟨zz, rfl⟩
          have hbz9 := b_then hbL zz.below
          go_wp2
          go_roundw
          case rel => exact ⟨k + 1, by omega, by go_num, by rw [HST.out, HBT.out], hbz9⟩
          case measure => simp [intOf]; omega
        have g1 : (e.ch == y.ch) = true := by simpa using q1
        by_cases q2 : y.frm ≤ e.frm
        rotate_left
        · have g2 : decide (y.frm ≤ e.frm) = false := by simp; omega
          have hst : bestTo (winP s x l y) l (k + 1) = bestTo (winP s x l y) l k := best_stay (.inl (by simp [winP, inWin, HEM.out, q2]))
          have HST := Lib.hid hst
          clear hst
          clear q1 q2
          go_wp2_with fail
          refine wp_region_later (by kernel_rfl) (by kernel_rfl) ?_
          repeat (go_big_quiet_step (fail))
          refine wpQuiet_nil ?_
          rintro _ ⟨zz, rfl⟩
          have hbz9 := b_then hbL zz.below
          go_wp2
          go_roundw
          case rel => exact ⟨k + 1, by omega, by go_num, by rw [HST.out, HBT.out], hbz9⟩
          case measure => simp [intOf]; omega
        have g2 : decide (y.frm ≤ e.frm) = true := by simp; omega
        by_cases q3 : e.frm ≤ y.to
        rotate_left
        · have g3 : decide (e.frm ≤ y.to) = false := by simp; omega
          have hst : bestTo (winP s x l y) l (k + 1) = bestTo (winP s x l y) l k := best_stay (.inl (by simp [winP, inWin, HEM.out, q3]))
          have HST := Lib.hid hst
          clear hst
          clear q1 q2 q3
          go_wp2_with fail
          refine wp_region_later (by kernel_rfl) (by kernel_rfl) ?_
          repeat (go_big_quiet_step (fail))
          refine wpQuiet_nil ?_
          rintro _ ⟨zz, rfl⟩
          have hbz9 := b_then hbL zz.below
          go_wp2
          go_roundw
          case rel => exact ⟨k + 1, by omega, by go_num, by rw [HST.out, HBT.out], hbz9⟩
          case measure => simp [intOf]; omega
        have g3 : decide (e.frm ≤ y.to) = true := by simp; omega
        have hiw : inWin y e = true := by simp [inWin, q1, q2, q3]
        have HIW := Lib.hid hiw
        clear hiw q1 q2 q3
        by_cases q4 : e.frm < eb.frm
        · have g4 : decide (e.frm < eb.frm) = true := by simpa using q4
          have hst : bestTo (winP s x l y) l (k + 1) = k := best_take (by simp [winP, HEM.out, HIW.out, HRc.out]) (.inr (by rw [HBT.out, show ((b : Int)).toNat = b by omega, HEM.out, heb]; exact q4))
          have HST := Lib.hid hst
          clear hst q4 heb hb
          go_wp2_with fail
          refine wp_region_later (by kernel_rfl) (by kernel_rfl) ?_
          repeat (go_big_quiet_step (fail))
          refine wpQuiet_nil ?_
          rintro _ ⟨zz, rfl⟩
          have hbz9 := b_then hbL zz.below
          go_wp2
          go_roundw
          case rel => exact ⟨k + 1, by omega, by go_num, by rw [HST.out], hbz9⟩
          case measure => simp [intOf]; omega
        · have g4 : decide (e.frm < eb.frm) = false := by simpa using q4
          have hst : bestTo (winP s x l y) l (k + 1) = bestTo (winP s x l y) l k := best_stay (.inr (by rw [hb, show ((b : Int)).toNat = b by omega, HEM.out, heb]; omega))
          have HST := Lib.hid hst
          clear hst
          clear q4 heb hb
          go_wp2_with fail
          refine wp_region_later (by kernel_rfl) (by kernel_rfl) ?_
          repeat (go_big_quiet_step (fail))
          refine wpQuiet_nil ?_
          rintro _ ⟨zz, rfl⟩
          have hbz9 := b_then hbL zz.below
          go_wp2
          go_roundw
          case rel => exact ⟨k + 1, by omega, by go_num, by rw [HST.out, HBT.out], hbz9⟩
          case measure => simp [intOf]; omega
    · obtain rfl : k = l.length := by omega
      have hbB5 := b_then hbB4 hbw
      have hbz5 := b_then hb1 hbB5
      try clear l40 l41 l42 l43 l44 l45 l46 l47 l48 l49 l410 l411 l412
      obtain ⟨l50, l51, l52, l53, l54, l55, l56, l57, l58, l59, l510, l511, l512⟩ := q _ hbB5
      have ks : ∀ w', Below wr.heap.size wr w' → (Below wr.heap.size wr w' ∧ (w'.cell? ⟨w.heap.size, 0, none⟩ = some (.slice A0 s.nodes.length c0) ∧ w'.cell? ⟨w.heap.size, 1, none⟩ = some (.slice A1 s.powers.length c1) ∧ w'.cell? ⟨w.heap.size, 2, none⟩ = some (.slice A2 s.walls.length c2) ∧ w'.cell? ⟨w.heap.size, 3, none⟩ = some (.int .i64 s.ex) ∧ w'.cell? ⟨w.heap.size, 4, none⟩ = some (.int .i64 s.noise) ∧ w'.cell? ⟨w.heap.size, 5, none⟩ = some (.int .i64 s.thr) ∧ w'.cell? ⟨w.heap.size, 6, none⟩ = some (.slice A3 x.srcs.length c3) ∧ w'.cell? ⟨w.heap.size, 7, none⟩ = some (.slice A4 x.fds.length c4) ∧ w'.cell? ⟨w.heap.size, 8, none⟩ = some (.slice A5 l.length c5) ∧ w'.cell? ⟨w.heap.size + 1, 0, none⟩ = some (.int .i64 y.node) ∧ w'.cell? ⟨w.heap.size + 1, 1, none⟩ = some (.int .i64 y.ch) ∧ w'.cell? ⟨w.heap.size + 1, 2, none⟩ = some (.int .i64 y.frm) ∧ w'.cell? ⟨w.heap.size + 1, 3, none⟩ = some (.int .i64 y.to))) := fun w' h => ⟨h, q _ (b_then hbB5 h)⟩
      have KS := Lib.hid ks
      clear ks
      have hw0 : IntKind.i64.wrap wd = wd := by rw [IntKind.wrap_i64]; omega
      have hw1 : IntKind.i64.wrap (y.frm - wd) = y.frm - wd := by rw [IntKind.wrap_i64]; omega
      have hw2 : IntKind.i64.wrap (y.to + wd) = y.to + wd := by rw [IntKind.wrap_i64]; omega
      obtain ⟨Wz, hWz⟩ : ∃ W : World, W = (wr.alloc (.cells #[.int .i64 y.node, .int .i64 y.ch, .int .i64 (max (y.frm - wd) 0), .int .i64 (min (y.to + wd) 1099511627776)] 43)) := ⟨_, rfl⟩; have hbz0 : Below wr.heap.size wr Wz := (by rw [hWz]; (repeat (first | exact Below.refl _ _ | assumption | apply b_alloc | apply b_drewN | apply b_drew))); have qz : ∀ wq : World, Below Wz.heap.size Wz wq → wq.cell? ⟨wr.heap.size, 0, none⟩ = some (.int .i64 y.node) ∧ wq.cell? ⟨wr.heap.size, 1, none⟩ = some (.int .i64 y.ch) ∧ wq.cell? ⟨wr.heap.size, 2, none⟩ = some (.int .i64 (max (y.frm - wd) 0)) ∧ wq.cell? ⟨wr.heap.size, 3, none⟩ = some (.int .i64 (min (y.to + wd) 1099511627776)) := (fun wq hwr => ⟨cell_mono hwr (by rw [hWz]; go_simp), cell_mono hwr (by rw [hWz]; go_simp), cell_mono hwr (by rw [hWz]; go_simp), cell_mono hwr (by rw [hWz]; go_simp)⟩); have HWz := Lib.hid hWz; clear hWz
      have hbBz := b_then hbB5 hbz0
      have hbzz := b_then hb1 hbBz
      have HEZ := Lib.hid (show hearE s x l ⟨y.node, y.ch, max (y.frm - wd) 0, min (y.to + wd) 1099511627776⟩ = 0 from HWZ.out)
      clear y0 y1 y2
      have kz : ∀ w', Below Wz.heap.size Wz w' → ((Below Wz.heap.size Wz w' ∧ (w'.cell? ⟨w.heap.size, 0, none⟩ = some (.slice A0 s.nodes.length c0) ∧ w'.cell? ⟨w.heap.size, 1, none⟩ = some (.slice A1 s.powers.length c1) ∧ w'.cell? ⟨w.heap.size, 2, none⟩ = some (.slice A2 s.walls.length c2) ∧ w'.cell? ⟨w.heap.size, 3, none⟩ = some (.int .i64 s.ex) ∧ w'.cell? ⟨w.heap.size, 4, none⟩ = some (.int .i64 s.noise) ∧ w'.cell? ⟨w.heap.size, 5, none⟩ = some (.int .i64 s.thr) ∧ w'.cell? ⟨w.heap.size, 6, none⟩ = some (.slice A3 x.srcs.length c3) ∧ w'.cell? ⟨w.heap.size, 7, none⟩ = some (.slice A4 x.fds.length c4) ∧ w'.cell? ⟨w.heap.size, 8, none⟩ = some (.slice A5 l.length c5) ∧ w'.cell? ⟨w.heap.size + 1, 0, none⟩ = some (.int .i64 y.node) ∧ w'.cell? ⟨w.heap.size + 1, 1, none⟩ = some (.int .i64 y.ch) ∧ w'.cell? ⟨w.heap.size + 1, 2, none⟩ = some (.int .i64 y.frm) ∧ w'.cell? ⟨w.heap.size + 1, 3, none⟩ = some (.int .i64 y.to))) ∧ Below Wz.heap.size Wz w' ∧ (w'.cell? ⟨wr.heap.size, 0, none⟩ = some (.int .i64 y.node) ∧ w'.cell? ⟨wr.heap.size, 1, none⟩ = some (.int .i64 y.ch) ∧ w'.cell? ⟨wr.heap.size, 2, none⟩ = some (.int .i64 (max (y.frm - wd) 0)) ∧ w'.cell? ⟨wr.heap.size, 3, none⟩ = some (.int .i64 (min (y.to + wd) 1099511627776)))) := fun w' h => ⟨⟨h, q _ (b_then hbBz h)⟩, h, qz _ h⟩
      have KZ := Lib.hid kz
      clear kz
      have hsz : ∀ w', Below Wz.heap.size Wz w' → SiteV w' (.agg #[.slice A0 s.nodes.length c0, .slice A1 s.powers.length c1, .slice A2 s.walls.length c2, .int .i64 s.ex, .int .i64 s.noise, .int .i64 s.thr]) s := fun w' h => hs'.out.mono (b_then hbzz h)
      have hxz : ∀ w', Below Wz.heap.size Wz w' → SpmV w' (.agg #[.slice A3 x.srcs.length c3, .slice A4 x.fds.length c4]) x := fun w' h => hx'.out.mono (b_then hbzz h)
      have hlz : ∀ w', Below Wz.heap.size Wz w' → SlV 4 KEm w' (.slice A5 l.length c5) l := fun w' h => hl'.out.mono KEm.st (b_then hbzz h)
      have HSz := Lib.hid hsz
      have HXz := Lib.hid hxz
      have HLz := Lib.hid hlz
      clear hsz hxz hlz
      rcases HSP.out with ⟨hbest, hG, hN⟩ | ⟨b, c, hbest, hbl, hG, hN, hG2, hN2, hcl, hfr⟩
      · rw [hbest]
        subst hG
        subst hN
        clear hbest
        go_wp2_with fail
        go_region_held3 (fun w' => Below wr.heap.size wr w' ∧ (w'.cell? ⟨w.heap.size, 0, none⟩ = some (.slice A0 s.nodes.length c0) ∧ w'.cell? ⟨w.heap.size, 1, none⟩ = some (.slice A1 s.powers.length c1) ∧ w'.cell? ⟨w.heap.size, 2, none⟩ = some (.slice A2 s.walls.length c2) ∧ w'.cell? ⟨w.heap.size, 3, none⟩ = some (.int .i64 s.ex) ∧ w'.cell? ⟨w.heap.size, 4, none⟩ = some (.int .i64 s.noise) ∧ w'.cell? ⟨w.heap.size, 5, none⟩ = some (.int .i64 s.thr) ∧ w'.cell? ⟨w.heap.size, 6, none⟩ = some (.slice A3 x.srcs.length c3) ∧ w'.cell? ⟨w.heap.size, 7, none⟩ = some (.slice A4 x.fds.length c4) ∧ w'.cell? ⟨w.heap.size, 8, none⟩ = some (.slice A5 l.length c5) ∧ w'.cell? ⟨w.heap.size + 1, 0, none⟩ = some (.int .i64 y.node) ∧ w'.cell? ⟨w.heap.size + 1, 1, none⟩ = some (.int .i64 y.ch) ∧ w'.cell? ⟨w.heap.size + 1, 2, none⟩ = some (.int .i64 y.frm) ∧ w'.cell? ⟨w.heap.size + 1, 3, none⟩ = some (.int .i64 y.to)))
          ((refine KS.out _ ?_; first | with_reducible exact b_drew (b_alloc (Below.refl _ _) _) | with_reducible exact b_alloc (Below.refl _ _) _ | with_reducible exact Below.setCell (And.left (by assumption)) (Nat.le_refl _) _))
          (fail)
        all_goals
          rw [← HWz.out]
          try clear l50 l51 l52 l53 l54 l55 l56 l57 l58 l59 l510 l511 l512
          obtain ⟨l60, l61, l62, l63, l64, l65, l66, l67, l68, l69, l610, l611, l612⟩ := q _ (b_then hbB5 (b_then hbz0 (b_drew (Below.refl _ _))))
          obtain ⟨mz0, mz1, mz2, mz3⟩ := qz _ (b_drew (Below.refl _ _))
          go_wp2_with fail
          go_region_held3 (fun w' => (Below Wz.heap.size Wz w' ∧ (w'.cell? ⟨w.heap.size, 0, none⟩ = some (.slice A0 s.nodes.length c0) ∧ w'.cell? ⟨w.heap.size, 1, none⟩ = some (.slice A1 s.powers.length c1) ∧ w'.cell? ⟨w.heap.size, 2, none⟩ = some (.slice A2 s.walls.length c2) ∧ w'.cell? ⟨w.heap.size, 3, none⟩ = some (.int .i64 s.ex) ∧ w'.cell? ⟨w.heap.size, 4, none⟩ = some (.int .i64 s.noise) ∧ w'.cell? ⟨w.heap.size, 5, none⟩ = some (.int .i64 s.thr) ∧ w'.cell? ⟨w.heap.size, 6, none⟩ = some (.slice A3 x.srcs.length c3) ∧ w'.cell? ⟨w.heap.size, 7, none⟩ = some (.slice A4 x.fds.length c4) ∧ w'.cell? ⟨w.heap.size, 8, none⟩ = some (.slice A5 l.length c5) ∧ w'.cell? ⟨w.heap.size + 1, 0, none⟩ = some (.int .i64 y.node) ∧ w'.cell? ⟨w.heap.size + 1, 1, none⟩ = some (.int .i64 y.ch) ∧ w'.cell? ⟨w.heap.size + 1, 2, none⟩ = some (.int .i64 y.frm) ∧ w'.cell? ⟨w.heap.size + 1, 3, none⟩ = some (.int .i64 y.to))) ∧ Below Wz.heap.size Wz w' ∧ (w'.cell? ⟨wr.heap.size, 0, none⟩ = some (.int .i64 y.node) ∧ w'.cell? ⟨wr.heap.size, 1, none⟩ = some (.int .i64 y.ch) ∧ w'.cell? ⟨wr.heap.size, 2, none⟩ = some (.int .i64 (max (y.frm - wd) 0)) ∧ w'.cell? ⟨wr.heap.size, 3, none⟩ = some (.int .i64 (min (y.to + wd) 1099511627776))))
            ((refine KZ.out _ ?_; first | with_reducible exact b_drew (b_drew (Below.refl _ _)) | with_reducible exact b_then (And.left (And.left (by assumption))) hbq))
            (first
              | (go_at_call 12; refine (cloneS l _ _ (HLz.out _ (And.left (And.left (by assumption)))) (by omega)).mono ?_; rintro e7 w7 ⟨u, rfl, hcl, hbq⟩; obtain ⟨AC, cC, rfl, _⟩ := id hcl)
              | (go_at_call 16; refine (aHear s x l ⟨y.node, y.ch, max (y.frm - wd) 0, min (y.to + wd) 1099511627776⟩ _ _ _ _ (HSz.out _ (And.left (And.left (by assumption)))) (HXz.out _ (And.left (And.left (by assumption)))) hcl).mono ?_; rintro e6 w6 ⟨rfl, hbq⟩)
              | fail)
          have hbF : Below Wz.heap.size Wz w6 := And.left (And.left (by assumption))
          have hbBF := b_then hbBz hbF
          try clear l60 l61 l62 l63 l64 l65 l66 l67 l68 l69 l610 l611 l612
          try clear mz0 mz1 mz2 mz3
          obtain ⟨l70, l71, l72, l73, l74, l75, l76, l77, l78, l79, l710, l711, l712⟩ := q _ hbBF; have Ll70 := Later.cell l70; have Ll71 := Later.cell l71; have Ll72 := Later.cell l72; have Ll73 := Later.cell l73; have Ll74 := Later.cell l74; have Ll75 := Later.cell l75; have Ll76 := Later.cell l76; have Ll77 := Later.cell l77; have Ll78 := Later.cell l78; have Ll79 := Later.cell l79; have Ll710 := Later.cell l710; have Ll711 := Later.cell l711; have Ll712 := Later.cell l712
          rw [HEZ.out]
        all_goals
          go_wp2_with fail
          refine wp_region_later (by kernel_rfl) (by kernel_rfl) ?_
          repeat (go_big_quiet_step (fail))
          refine wpQuiet_nil ?_
          rintro _ ⟨zz, rfl⟩
          go_wp2
          go_ret
          exact ⟨rfl, b_then (b_then hb1 hbBF) zz.below⟩
      · obtain ⟨bl, off, hAe, _, _, _, _⟩ := hr5.em hbz5 (emD_get hbl)
        subst hAe
        have hN2' : hearN s x l ⟨y.node, y.ch, max (y.frm - wd) 0, min (y.to + wd) 1099511627776⟩ = c := hN2
        have hG2' : heardB s x l ⟨y.node, y.ch, max (y.frm - wd) 0, min (y.to + wd) 1099511627776⟩ = true := hG2
        have HN2 := Lib.hid hN2'
        have HG2 := Lib.hid hG2'
        have hge := emD_get hbl
        have hgc := emD_get hcl
        obtain ⟨eb, heb⟩ : ∃ eb, emD l b = eb := ⟨_, rfl⟩
        obtain ⟨ec, hec⟩ : ∃ ec, emD l c = ec := ⟨_, rfl⟩
        rw [heb] at hge hfr
        rw [hec] at hgc hfr
        have f1 : decide ((0 : Int) ≤ (c : Int)) = true := by simp
        have f2 : decide ((c : Int) < (l.length : Int)) = true := by simp; omega
        have f3 : decide (ec.frm ≤ eb.frm) = true := by simpa using hfr
        have f4 : (0 : Int) ≤ (c : Int) := by omega
        have f5 : (c : Int) < (l.length : Int) := by omega
        have f6 : (0 : Int) ≤ (b : Int) := by omega
        have f7 : (b : Int) < (l.length : Int) := by omega
        have HGE := Lib.hid hge
        have HGC := Lib.hid hgc
        rw [hbest]
        subst hG
        subst hN
        clear hbest hN2 hG2 hN2' hG2' hge hgc heb hec hfr
        go_wp2_with fail
        go_region_held3 (fun w' => Below wr.heap.size wr w' ∧ (w'.cell? ⟨w.heap.size, 0, none⟩ = some (.slice A0 s.nodes.length c0) ∧ w'.cell? ⟨w.heap.size, 1, none⟩ = some (.slice A1 s.powers.length c1) ∧ w'.cell? ⟨w.heap.size, 2, none⟩ = some (.slice A2 s.walls.length c2) ∧ w'.cell? ⟨w.heap.size, 3, none⟩ = some (.int .i64 s.ex) ∧ w'.cell? ⟨w.heap.size, 4, none⟩ = some (.int .i64 s.noise) ∧ w'.cell? ⟨w.heap.size, 5, none⟩ = some (.int .i64 s.thr) ∧ w'.cell? ⟨w.heap.size, 6, none⟩ = some (.slice A3 x.srcs.length c3) ∧ w'.cell? ⟨w.heap.size, 7, none⟩ = some (.slice A4 x.fds.length c4) ∧ w'.cell? ⟨w.heap.size, 8, none⟩ = some (.slice (some ⟨bl, off, none⟩) l.length c5) ∧ w'.cell? ⟨w.heap.size + 1, 0, none⟩ = some (.int .i64 y.node) ∧ w'.cell? ⟨w.heap.size + 1, 1, none⟩ = some (.int .i64 y.ch) ∧ w'.cell? ⟨w.heap.size + 1, 2, none⟩ = some (.int .i64 y.frm) ∧ w'.cell? ⟨w.heap.size + 1, 3, none⟩ = some (.int .i64 y.to)))
          ((refine KS.out _ ?_; first | with_reducible exact b_drew (b_alloc (Below.refl _ _) _) | with_reducible exact b_alloc (Below.refl _ _) _ | with_reducible exact Below.setCell (And.left (by assumption)) (Nat.le_refl _) _))
          (fail)
        all_goals
          rw [← HWz.out]
          try clear l50 l51 l52 l53 l54 l55 l56 l57 l58 l59 l510 l511 l512
          obtain ⟨l60, l61, l62, l63, l64, l65, l66, l67, l68, l69, l610, l611, l612⟩ := q _ (b_then hbB5 (b_then hbz0 (b_drew (Below.refl _ _))))
          obtain ⟨mz0, mz1, mz2, mz3⟩ := qz _ (b_drew (Below.refl _ _))
          go_wp2_with fail
          go_region_held3 (fun w' => (Below Wz.heap.size Wz w' ∧ (w'.cell? ⟨w.heap.size, 0, none⟩ = some (.slice A0 s.nodes.length c0) ∧ w'.cell? ⟨w.heap.size, 1, none⟩ = some (.slice A1 s.powers.length c1) ∧ w'.cell? ⟨w.heap.size, 2, none⟩ = some (.slice A2 s.walls.length c2) ∧ w'.cell? ⟨w.heap.size, 3, none⟩ = some (.int .i64 s.ex) ∧ w'.cell? ⟨w.heap.size, 4, none⟩ = some (.int .i64 s.noise) ∧ w'.cell? ⟨w.heap.size, 5, none⟩ = some (.int .i64 s.thr) ∧ w'.cell? ⟨w.heap.size, 6, none⟩ = some (.slice A3 x.srcs.length c3) ∧ w'.cell? ⟨w.heap.size, 7, none⟩ = some (.slice A4 x.fds.length c4) ∧ w'.cell? ⟨w.heap.size, 8, none⟩ = some (.slice (some ⟨bl, off, none⟩) l.length c5) ∧ w'.cell? ⟨w.heap.size + 1, 0, none⟩ = some (.int .i64 y.node) ∧ w'.cell? ⟨w.heap.size + 1, 1, none⟩ = some (.int .i64 y.ch) ∧ w'.cell? ⟨w.heap.size + 1, 2, none⟩ = some (.int .i64 y.frm) ∧ w'.cell? ⟨w.heap.size + 1, 3, none⟩ = some (.int .i64 y.to))) ∧ Below Wz.heap.size Wz w' ∧ (w'.cell? ⟨wr.heap.size, 0, none⟩ = some (.int .i64 y.node) ∧ w'.cell? ⟨wr.heap.size, 1, none⟩ = some (.int .i64 y.ch) ∧ w'.cell? ⟨wr.heap.size, 2, none⟩ = some (.int .i64 (max (y.frm - wd) 0)) ∧ w'.cell? ⟨wr.heap.size, 3, none⟩ = some (.int .i64 (min (y.to + wd) 1099511627776))))
            ((refine KZ.out _ ?_; first | with_reducible exact b_drew (b_drew (Below.refl _ _)) | with_reducible exact b_then (And.left (And.left (by assumption))) hbq))
            (first
              | (go_at_call 12; refine (cloneS l _ _ (HLz.out _ (And.left (And.left (by assumption)))) (by omega)).mono ?_; rintro e7 w7 ⟨u, rfl, hcl, hbq⟩; obtain ⟨AC, cC, rfl, _⟩ := id hcl)
              | (go_at_call 16; refine (aHear s x l ⟨y.node, y.ch, max (y.frm - wd) 0, min (y.to + wd) 1099511627776⟩ _ _ _ _ (HSz.out _ (And.left (And.left (by assumption)))) (HXz.out _ (And.left (And.left (by assumption)))) hcl).mono ?_; rintro e6 w6 ⟨rfl, hbq⟩)
              | fail)
          have hbF : Below Wz.heap.size Wz w6 := And.left (And.left (by assumption))
          have hbBF := b_then hbBz hbF
          try clear l60 l61 l62 l63 l64 l65 l66 l67 l68 l69 l610 l611 l612
          try clear mz0 mz1 mz2 mz3
          obtain ⟨l70, l71, l72, l73, l74, l75, l76, l77, l78, l79, l710, l711, l712⟩ := q _ hbBF; have Ll70 := Later.cell l70; have Ll71 := Later.cell l71; have Ll72 := Later.cell l72; have Ll73 := Later.cell l73; have Ll74 := Later.cell l74; have Ll75 := Later.cell l75; have Ll76 := Later.cell l76; have Ll77 := Later.cell l77; have Ll78 := Later.cell l78; have Ll79 := Later.cell l79; have Ll710 := Later.cell l710; have Ll711 := Later.cell l711; have Ll712 := Later.cell l712
          rw [HEZ.out]
        all_goals
          rw [HN2.out, HG2.out]
          obtain ⟨_, _, hAe, _, _, b2, _⟩ := hr5.em (b_then hb1 hbBF) HGE.out
          cases hAe
          obtain ⟨_, _, hAe, _, _, d2, _⟩ := hr5.em (b_then hb1 hbBF) HGC.out
          cases hAe
          have B2 := Later.cell b2
          have D2 := Later.cell d2
          go_wp2_with fail
          refine wp_region_later (by kernel_rfl) (by kernel_rfl) ?_
          repeat (go_big_quiet_step (fail))
          refine wpQuiet_nil ?_
          rintro _ ⟨zz, rfl⟩
          go_wp2
          go_ret
          exact ⟨rfl, b_then (b_then hb1 hbBF) zz.below⟩
end Go.Proofs.Ytpbhoeaadnemhaa
