/- Interference, Received, Receivers: the program. Receivers: the program. Helpers of the law functions: whether a list is sorted, whether a scene is small. The arguments of the laws of 07, opened: scenes, emissions, listenings. -/
import Derived.Test.YtpbhoeaadnemhaaGreatME
import Derived.Test.YtpbhoeaadnemhaaGreatMD
import Derived.Test.YtpbhoeaadnemhaaGreatM1
import Derived.Test.YtpbhoeaadnemhaaGreatM8
import Derived.Test.YtpbhoeaadnemhaaGreatMB
namespace Go.Proofs.YtpbhoeaadnemhaaGreat
open Go.RowKit Go.Shelf
set_option linter.unusedVariables false
set_option linter.unusedSimpArgs false
set_option maxHeartbeats 4000000
set_option maxRecDepth 100000
theorem chk_zero {s : Site} {x : Spm} {l : List Em} {i node : Int} (h : chkE s x l i node = 0) : airE s x l = 0 ∧ inB s node = true ∧ ∃ k : Nat, i = k ∧ k < l.length := by
  unfold chkE at h
  split at h
  · rename_i h1
    split at h
    · rename_i h2
      simp only [ixB, Bool.and_eq_true, decide_eq_true_eq] at h2
      exact ⟨h1, h2.2, i.toNat, by omega, by omega⟩
    · cases h
  · rename_i h1; exact absurd h h1
theorem aInterf (s : Site) (x : Spm) (l : List Em) (i node : Int) (v xv lv : Value) (w : World) (hs : SiteV w v s) (hx : SpmV w xv x) (hl : SlV 4 KEm w lv l) :
    Calls Tryz.prog 13 #[v, xv, lv, .int .i64 i, .int .i64 node] w fun e w' => e = .returned (.tuple #[.int .i64 (itfN s x l i node), .int .i64 (chkE s x l i node)]) ∧ Below w.heap.size w w' := by
  obtain ⟨R, hR⟩ : ∃ R, chkE s x l i node = R := ⟨_, rfl⟩
  obtain ⟨N, hN⟩ : ∃ N, itfN s x l i node = N := ⟨_, rfl⟩
  rw [hR, hN]
  have HR := Lib.hid hR
  have HN := Lib.hid hN
  clear hR hN
  have hu := Tryz.underlying26
  have hu2 := Tryz.underlying30
  have hu3 := Tryz.underlying42
  have hu4 := Tryz.underlying59
  have hs' := Lib.hid hs
  obtain ⟨v0, v1, v2, rfl, h0, h1, h2⟩ := hs
  obtain ⟨A0, c0, rfl, hc0, hm0, hr0⟩ := h0
  obtain ⟨A1, c1, rfl, hc1, hm1, hr1⟩ := h1
  obtain ⟨A2, c2, rfl, hc2, hm2, hr2⟩ := h2
  unfold big at hm0 hm1 hm2
  have hx' := Lib.hid hx
  obtain ⟨x0, x1, rfl, h3, h4⟩ := hx
  have H3 := Lib.hid h3
  have H4 := Lib.hid h4
  obtain ⟨A3, c3, rfl, hc3, hm3, hr3⟩ := h3
  obtain ⟨A4, c4, rfl, hc4, hm4, hr4⟩ := h4
  unfold big at hm3 hm4
  have hl' := Lib.hid hl
  obtain ⟨A5, c5, rfl, hc5, hm5, hr5⟩ := hl
  unfold big at hm5
  obtain ⟨W1, hW1⟩ : ∃ W : World, W = ((w.alloc (.cells #[.slice A0 s.nodes.length c0, .slice A1 s.powers.length c1, .slice A2 s.walls.length c2, .int .i64 s.ex, .int .i64 s.noise, .int .i64 s.thr] 26)).alloc (.cells #[.slice A3 x.srcs.length c3, .slice A4 x.fds.length c4] 30)) := ⟨_, rfl⟩; have hb1 : Below w.heap.size w W1 := (by rw [hW1]; (repeat (first | exact Below.refl _ _ | assumption | apply b_alloc | apply b_drewN | apply b_drew))); have q : ∀ wq : World, Below W1.heap.size W1 wq → wq.cell? ⟨w.heap.size, 0, none⟩ = some (.slice A0 s.nodes.length c0) ∧ wq.cell? ⟨w.heap.size, 1, none⟩ = some (.slice A1 s.powers.length c1) ∧ wq.cell? ⟨w.heap.size, 2, none⟩ = some (.slice A2 s.walls.length c2) ∧ wq.cell? ⟨w.heap.size, 3, none⟩ = some (.int .i64 s.ex) ∧ wq.cell? ⟨w.heap.size, 4, none⟩ = some (.int .i64 s.noise) ∧ wq.cell? ⟨w.heap.size, 5, none⟩ = some (.int .i64 s.thr) ∧ wq.cell? ⟨w.heap.size + 1, 0, none⟩ = some (.slice A3 x.srcs.length c3) ∧ wq.cell? ⟨w.heap.size + 1, 1, none⟩ = some (.slice A4 x.fds.length c4) := (fun wq hwr => ⟨cell_mono hwr (by rw [hW1]; go_simp), cell_mono hwr (by rw [hW1]; go_simp), cell_mono hwr (by rw [hW1]; go_simp), cell_mono hwr (by rw [hW1]; go_simp), cell_mono hwr (by rw [hW1]; go_simp), cell_mono hwr (by rw [hW1]; go_simp), cell_mono hwr (by rw [hW1]; go_simp), cell_mono hwr (by rw [hW1]; go_simp)⟩); have HW := Lib.hid hW1; clear hW1
  go_enter Tryz.func13, Tryz.ntmps13
  go_wp2_with fail
  rw [← HW.out]
  refine (aCheck2 s x l i node _ (hs'.out.mono hb1) (hx'.out.mono hb1) (hl'.out.mono KEm.st hb1)).mono ?_
  rintro e w2 ⟨rfl, k4, k5, hb2⟩
  have hbz2 := b_then hb1 hb2
  have hsc : ScV w2 (.agg #[.slice A0 s.nodes.length c0, .slice A1 s.powers.length c1, .slice A2 s.walls.length c2, .int .i64 s.ex, .int .i64 s.noise, .int .i64 s.thr, .slice A3 x.srcs.length c3, .slice A4 x.fds.length c4, .slice A5 l.length c5, .func (.func 40) #[] #[.pointer (some ⟨W1.heap.size + 1 + 1 + 1, 0, none⟩)]]) s x l := ⟨A0, c0, A1, c1, A2, c2, A3, c3, A4, c4, A5, c5, _, rfl, hs'.out.mono hbz2, hx'.out.mono hbz2, hl'.out.mono KEm.st hbz2, k4, k5⟩
  have HSC := Lib.hid hsc
  clear hsc
  by_cases z : R = 0
  · have zz : chkE s x l i node = 0 := HR.out.trans z
    obtain ⟨hE, hin, k, rfl, hk⟩ := chk_zero zz
    have hsv := (valid_of hE).site
    subst z
    have hNe : N = intfI s x l k node := by rw [← HN.out]; simp only [itfN, rcvN, zz, if_true, Int.toNat_natCast]
    subst hNe
    have hbA : Below w2.heap.size w2 (w2.alloc (.cells #[.slice A0 s.nodes.length c0, .slice A1 s.powers.length c1, .slice A2 s.walls.length c2, .int .i64 s.ex, .int .i64 s.noise, .int .i64 s.thr, .slice A3 x.srcs.length c3, .slice A4 x.fds.length c4, .slice A5 l.length c5, .func (.func 40) #[] #[.pointer (some ⟨W1.heap.size + 1 + 1 + 1, 0, none⟩)]] 59)) := b_alloc (Below.refl _ _) _
    rw [zz]
    clear hE zz hin
    go_wp2_with fail
    refine (aInterference s x l k node _ _ hk (HSC.out.mono hbA)).mono ?_
    rintro e w3 ⟨rfl, hb3⟩
    go_wp2
    go_ret2
    exact ⟨rfl, b_then hbz2 (b_then hbA hb3)⟩
  · have g0 : (R == 0) = false := by simpa using z
    have g1 : (R != 0) = true := by simpa using z
    have zz : ¬ chkE s x l i node = 0 := fun h => z (HR.out.symm.trans h)
    have hN0 : N = 0 := by rw [← HN.out]; simp only [itfN, rcvN, if_neg zz]
    subst hN0
    rw [HR.out]
    clear z zz
    go_wp2
    go_ret2
    exact ⟨rfl, b_then hbz2 (b_alloc (Below.refl _ _) _)⟩
theorem aReceived (s : Site) (x : Spm) (l : List Em) (i node : Int) (v xv lv : Value) (w : World) (hs : SiteV w v s) (hx : SpmV w xv x) (hl : SlV 4 KEm w lv l) :
    Calls Tryz.prog 15 #[v, xv, lv, .int .i64 i, .int .i64 node] w fun e w' => e = .returned (.tuple #[.bool (rcvN s x l i node), .int .i64 (chkE s x l i node)]) ∧ Below w.heap.size w w' := by
  obtain ⟨R, hR⟩ : ∃ R, chkE s x l i node = R := ⟨_, rfl⟩
  obtain ⟨N, hN⟩ : ∃ N, rcvN s x l i node = N := ⟨_, rfl⟩
  rw [hR, hN]
  have HR := Lib.hid hR
  have HN := Lib.hid hN
  clear hR hN
  have hu := Tryz.underlying26
  have hu2 := Tryz.underlying30
  have hu3 := Tryz.underlying42
  have hu4 := Tryz.underlying59
  have hs' := Lib.hid hs
  obtain ⟨v0, v1, v2, rfl, h0, h1, h2⟩ := hs
  obtain ⟨A0, c0, rfl, hc0, hm0, hr0⟩ := h0
  obtain ⟨A1, c1, rfl, hc1, hm1, hr1⟩ := h1
  obtain ⟨A2, c2, rfl, hc2, hm2, hr2⟩ := h2
  unfold big at hm0 hm1 hm2
  have hx' := Lib.hid hx
  obtain ⟨x0, x1, rfl, h3, h4⟩ := hx
  have H3 := Lib.hid h3
  have H4 := Lib.hid h4
  obtain ⟨A3, c3, rfl, hc3, hm3, hr3⟩ := h3
  obtain ⟨A4, c4, rfl, hc4, hm4, hr4⟩ := h4
  unfold big at hm3 hm4
  have hl' := Lib.hid hl
  obtain ⟨A5, c5, rfl, hc5, hm5, hr5⟩ := hl
  unfold big at hm5
  obtain ⟨W1, hW1⟩ : ∃ W : World, W = ((w.alloc (.cells #[.slice A0 s.nodes.length c0, .slice A1 s.powers.length c1, .slice A2 s.walls.length c2, .int .i64 s.ex, .int .i64 s.noise, .int .i64 s.thr] 26)).alloc (.cells #[.slice A3 x.srcs.length c3, .slice A4 x.fds.length c4] 30)) := ⟨_, rfl⟩; have hb1 : Below w.heap.size w W1 := (by rw [hW1]; (repeat (first | exact Below.refl _ _ | assumption | apply b_alloc | apply b_drewN | apply b_drew))); have q : ∀ wq : World, Below W1.heap.size W1 wq → wq.cell? ⟨w.heap.size, 0, none⟩ = some (.slice A0 s.nodes.length c0) ∧ wq.cell? ⟨w.heap.size, 1, none⟩ = some (.slice A1 s.powers.length c1) ∧ wq.cell? ⟨w.heap.size, 2, none⟩ = some (.slice A2 s.walls.length c2) ∧ wq.cell? ⟨w.heap.size, 3, none⟩ = some (.int .i64 s.ex) ∧ wq.cell? ⟨w.heap.size, 4, none⟩ = some (.int .i64 s.noise) ∧ wq.cell? ⟨w.heap.size, 5, none⟩ = some (.int .i64 s.thr) ∧ wq.cell? ⟨w.heap.size + 1, 0, none⟩ = some (.slice A3 x.srcs.length c3) ∧ wq.cell? ⟨w.heap.size + 1, 1, none⟩ = some (.slice A4 x.fds.length c4) := (fun wq hwr => ⟨cell_mono hwr (by rw [hW1]; go_simp), cell_mono hwr (by rw [hW1]; go_simp), cell_mono hwr (by rw [hW1]; go_simp), cell_mono hwr (by rw [hW1]; go_simp), cell_mono hwr (by rw [hW1]; go_simp), cell_mono hwr (by rw [hW1]; go_simp), cell_mono hwr (by rw [hW1]; go_simp), cell_mono hwr (by rw [hW1]; go_simp)⟩); have HW := Lib.hid hW1; clear hW1
  go_enter Tryz.func15, Tryz.ntmps15
  go_wp2_with fail
  rw [← HW.out]
  refine (aCheck2 s x l i node _ (hs'.out.mono hb1) (hx'.out.mono hb1) (hl'.out.mono KEm.st hb1)).mono ?_
  rintro e w2 ⟨rfl, k4, k5, hb2⟩
  have hbz2 := b_then hb1 hb2
  have hsc : ScV w2 (.agg #[.slice A0 s.nodes.length c0, .slice A1 s.powers.length c1, .slice A2 s.walls.length c2, .int .i64 s.ex, .int .i64 s.noise, .int .i64 s.thr, .slice A3 x.srcs.length c3, .slice A4 x.fds.length c4, .slice A5 l.length c5, .func (.func 40) #[] #[.pointer (some ⟨W1.heap.size + 1 + 1 + 1, 0, none⟩)]]) s x l := ⟨A0, c0, A1, c1, A2, c2, A3, c3, A4, c4, A5, c5, _, rfl, hs'.out.mono hbz2, hx'.out.mono hbz2, hl'.out.mono KEm.st hbz2, k4, k5⟩
  have HSC := Lib.hid hsc
  clear hsc
  by_cases z : R = 0
  · have zz : chkE s x l i node = 0 := HR.out.trans z
    obtain ⟨hE, hin, k, rfl, hk⟩ := chk_zero zz
    have hsv := (valid_of hE).site
    subst z
    have hNe : N = recvB s x l k node := by rw [← HN.out]; simp only [itfN, rcvN, zz, if_true, Int.toNat_natCast]
    subst hNe
    have hbA : Below w2.heap.size w2 (w2.alloc (.cells #[.slice A0 s.nodes.length c0, .slice A1 s.powers.length c1, .slice A2 s.walls.length c2, .int .i64 s.ex, .int .i64 s.noise, .int .i64 s.thr, .slice A3 x.srcs.length c3, .slice A4 x.fds.length c4, .slice A5 l.length c5, .func (.func 40) #[] #[.pointer (some ⟨W1.heap.size + 1 + 1 + 1, 0, none⟩)]] 59)) := b_alloc (Below.refl _ _) _
    rw [zz]
    clear hE zz hin
    go_wp2_with fail
    refine (aReceived0 s x l k node _ _ hsv hk (HSC.out.mono hbA)).mono ?_
    rintro e w3 ⟨rfl, hb3⟩
    go_wp2
    go_ret2
    exact ⟨rfl, b_then hbz2 (b_then hbA hb3)⟩
  · have g0 : (R == 0) = false := by simpa using z
    have g1 : (R != 0) = true := by simpa using z
    have zz : ¬ chkE s x l i node = 0 := fun h => z (HR.out.symm.trans h)
    have hN0 : N = false := by rw [← HN.out]; simp only [itfN, rcvN, if_neg zz]
    subst hN0
    rw [HR.out]
    clear z zz
    go_wp2
    go_ret2
    exact ⟨rfl, b_then hbz2 (b_alloc (Below.refl _ _) _)⟩
end Go.Proofs.YtpbhoeaadnemhaaGreat
namespace Go.Proofs.YtpbhoeaadnemhaaGreat
open Go.RowKit Go.Shelf
set_option linter.unusedVariables false
set_option linter.unusedSimpArgs false
set_option maxHeartbeats 4000000
set_option maxRecDepth 100000
theorem own_weak {w : World} {base b2 n : Nat} {e : TypeId} {size : Nat} {v : Value} {xs : List Value} (h : w.ownsRow base e size v n xs) (hb : b2 ≤ base) : w.ownsRow b2 e size v n xs := by
  refine ⟨h.1, ?_⟩
  rcases h.2 with h2 | ⟨g, cap, cur, h3, h4, h5⟩
  · exact .inl h2
  · exact .inr ⟨g, cap, cur, h3, Nat.le_trans hb h4, h5⟩
theorem rcs_succ (s : Site) (x : Spm) (l : List Em) (i k : Nat) : rcsTo s x l i (k + 1) = if recvB s x l i k then rcsTo s x l i k ++ [(k : Int)] else rcsTo s x l i k := by
  simp only [rcsTo, List.range_succ, List.filter_append, List.map_append]
  split <;> simp_all
theorem rcs_len (s : Site) (x : Spm) (l : List Em) (i k : Nat) : (rcsTo s x l i k).length ≤ k := by
  have := range_len k fun j => recvB s x l i (j : Int)
  simpa [rcsTo] using this
theorem infoInt' : (Tryz.prog.info? 3).map (fun i => (i.zero, i.size, i.bytes)) = some (some (.int .i64 0), 1, 8) := by kernel_rfl
theorem aReceivers (s : Site) (x : Spm) (l : List Em) (i : Int) (v xv lv : Value) (w : World) (hs : SiteV w v s) (hx : SpmV w xv x) (hl : SlV 4 KEm w lv l) :
    Calls Tryz.prog 17 #[v, xv, lv, .int .i64 i] w fun e w' => ∃ u, e = .returned (.tuple #[u, .int .i64 (chkE s x l i 0)]) ∧ w'.ownsRow w.heap.size 3 1 u (rcsN s x l i).length ((rcsN s x l i).map (Value.int .i64)) ∧ Below w.heap.size w w' := by
  have hu := Tryz.underlying26
  have hu2 := Tryz.underlying30
  have hu3 := Tryz.underlying42
  have hu4 := Tryz.underlying59
  obtain ⟨R, hR⟩ : ∃ R, chkE s x l i 0 = R := ⟨_, rfl⟩
  obtain ⟨N, hN⟩ : ∃ N, rcsN s x l i = N := ⟨_, rfl⟩
  rw [hR, hN]
  have HR := Lib.hid hR
  have HN := Lib.hid hN
  clear hR hN
  have hs' := Lib.hid hs
  obtain ⟨v0, v1, v2, rfl, h0, h1, h2⟩ := hs
  obtain ⟨A0, c0, rfl, hc0, hm0, hr0⟩ := h0
  obtain ⟨A1, c1, rfl, hc1, hm1, hr1⟩ := h1
  obtain ⟨A2, c2, rfl, hc2, hm2, hr2⟩ := h2
  unfold big at hm0 hm1 hm2
  have hx' := Lib.hid hx
  obtain ⟨x0, x1, rfl, h3, h4⟩ := hx
  have H3 := Lib.hid h3
  have H4 := Lib.hid h4
  obtain ⟨A3, c3, rfl, hc3, hm3, hr3⟩ := h3
  obtain ⟨A4, c4, rfl, hc4, hm4, hr4⟩ := h4
  unfold big at hm3 hm4
  have hl' := Lib.hid hl
  obtain ⟨A5, c5, rfl, hc5, hm5, hr5⟩ := hl
  unfold big at hm5
  obtain ⟨W1, hW1⟩ : ∃ W : World, W = ((w.alloc (.cells #[.slice A0 s.nodes.length c0, .slice A1 s.powers.length c1, .slice A2 s.walls.length c2, .int .i64 s.ex, .int .i64 s.noise, .int .i64 s.thr] 26)).alloc (.cells #[.slice A3 x.srcs.length c3, .slice A4 x.fds.length c4] 30)) := ⟨_, rfl⟩; have hb1 : Below w.heap.size w W1 := (by rw [hW1]; (repeat (first | exact Below.refl _ _ | assumption | apply b_alloc | apply b_drewN | apply b_drew))); have q : ∀ wq : World, Below W1.heap.size W1 wq → wq.cell? ⟨w.heap.size, 0, none⟩ = some (.slice A0 s.nodes.length c0) ∧ wq.cell? ⟨w.heap.size, 1, none⟩ = some (.slice A1 s.powers.length c1) ∧ wq.cell? ⟨w.heap.size, 2, none⟩ = some (.slice A2 s.walls.length c2) ∧ wq.cell? ⟨w.heap.size, 3, none⟩ = some (.int .i64 s.ex) ∧ wq.cell? ⟨w.heap.size, 4, none⟩ = some (.int .i64 s.noise) ∧ wq.cell? ⟨w.heap.size, 5, none⟩ = some (.int .i64 s.thr) ∧ wq.cell? ⟨w.heap.size + 1, 0, none⟩ = some (.slice A3 x.srcs.length c3) ∧ wq.cell? ⟨w.heap.size + 1, 1, none⟩ = some (.slice A4 x.fds.length c4) := (fun wq hwr => ⟨cell_mono hwr (by rw [hW1]; go_simp), cell_mono hwr (by rw [hW1]; go_simp), cell_mono hwr (by rw [hW1]; go_simp), cell_mono hwr (by rw [hW1]; go_simp), cell_mono hwr (by rw [hW1]; go_simp), cell_mono hwr (by rw [hW1]; go_simp), cell_mono hwr (by rw [hW1]; go_simp), cell_mono hwr (by rw [hW1]; go_simp)⟩); have HW := Lib.hid hW1; clear hW1
  go_enter Tryz.func17, Tryz.ntmps17
  go_wp2_with fail
  rw [← HW.out]
  refine (aCheck2 s x l i 0 _ (hs'.out.mono hb1) (hx'.out.mono hb1) (hl'.out.mono KEm.st hb1)).mono ?_
  rintro e w2 ⟨rfl, k4, k5, hb2⟩
  have hbz2 := b_then hb1 hb2
  have hsc : ScV w2 (.agg #[.slice A0 s.nodes.length c0, .slice A1 s.powers.length c1, .slice A2 s.walls.length c2, .int .i64 s.ex, .int .i64 s.noise, .int .i64 s.thr, .slice A3 x.srcs.length c3, .slice A4 x.fds.length c4, .slice A5 l.length c5, .func (.func 40) #[] #[.pointer (some ⟨W1.heap.size + 1 + 1 + 1, 0, none⟩)]]) s x l := ⟨A0, c0, A1, c1, A2, c2, A3, c3, A4, c4, A5, c5, _, rfl, hs'.out.mono hbz2, hx'.out.mono hbz2, hl'.out.mono KEm.st hbz2, k4, k5⟩
  have HSC := Lib.hid hsc
  clear hsc
  obtain ⟨W2, hW2⟩ : ∃ W : World, W = (w2.alloc (.cells #[.slice A0 s.nodes.length c0, .slice A1 s.powers.length c1, .slice A2 s.walls.length c2, .int .i64 s.ex, .int .i64 s.noise, .int .i64 s.thr, .slice A3 x.srcs.length c3, .slice A4 x.fds.length c4, .slice A5 l.length c5, .func (.func 40) #[] #[.pointer (some ⟨W1.heap.size + 1 + 1 + 1, 0, none⟩)]] 59)) := ⟨_, rfl⟩; have hbA : Below w2.heap.size w2 W2 := (by rw [hW2]; (repeat (first | exact Below.refl _ _ | assumption | apply b_alloc | apply b_drewN | apply b_drew))); have p : ∀ wq : World, Below W2.heap.size W2 wq → wq.cell? ⟨w2.heap.size, 0, none⟩ = some (.slice A0 s.nodes.length c0) ∧ wq.cell? ⟨w2.heap.size, 1, none⟩ = some (.slice A1 s.powers.length c1) ∧ wq.cell? ⟨w2.heap.size, 2, none⟩ = some (.slice A2 s.walls.length c2) ∧ wq.cell? ⟨w2.heap.size, 3, none⟩ = some (.int .i64 s.ex) ∧ wq.cell? ⟨w2.heap.size, 4, none⟩ = some (.int .i64 s.noise) ∧ wq.cell? ⟨w2.heap.size, 5, none⟩ = some (.int .i64 s.thr) ∧ wq.cell? ⟨w2.heap.size, 6, none⟩ = some (.slice A3 x.srcs.length c3) ∧ wq.cell? ⟨w2.heap.size, 7, none⟩ = some (.slice A4 x.fds.length c4) ∧ wq.cell? ⟨w2.heap.size, 8, none⟩ = some (.slice A5 l.length c5) ∧ wq.cell? ⟨w2.heap.size, 9, none⟩ = some (.func (.func 40) #[] #[.pointer (some ⟨W1.heap.size + 1 + 1 + 1, 0, none⟩)]) := (fun wq hwr => ⟨cell_mono hwr (by rw [hW2]; go_simp), cell_mono hwr (by rw [hW2]; go_simp), cell_mono hwr (by rw [hW2]; go_simp), cell_mono hwr (by rw [hW2]; go_simp), cell_mono hwr (by rw [hW2]; go_simp), cell_mono hwr (by rw [hW2]; go_simp), cell_mono hwr (by rw [hW2]; go_simp), cell_mono hwr (by rw [hW2]; go_simp), cell_mono hwr (by rw [hW2]; go_simp), cell_mono hwr (by rw [hW2]; go_simp)⟩); have HX := Lib.hid hW2; clear hW2
  have hbz3 := b_then hbz2 hbA
  by_cases z : R = 0
  · have zz : chkE s x l i 0 = 0 := HR.out.trans z
    obtain ⟨hE, hin, k0, rfl, hk0⟩ := chk_zero zz
    have hsv := (valid_of hE).site
    have hnl := (site_len hsv).2.1
    subst z
    have hNe : N = rcsI s x l k0 := by rw [← HN.out]; simp only [rcsN, zz, if_true, Int.toNat_natCast]
    rw [zz]
    have HNe := Lib.hid hNe
    clear hE zz hin hNe
    obtain ⟨la0, la1, la2, la3, la4, la5, la6, la7⟩ := q _ hb2
    have la' := cell_mono hbA la0
    rw [HX.out] at la'
    go_wp2_with fail
    rw [← HX.out]
    go_loopw [12, 28] (fun o i wr => ∃ k : Nat, k ≤ s.nodes.length ∧ i = .int .i64 k ∧ (∃ A n c, o = .slice A n c) ∧ wr.ownsRow W2.heap.size 3 1 o (rcsTo s x l k0 k).length ((rcsTo s x l k0 k).map (Value.int .i64)) ∧ Below W2.heap.size W2 wr) (fun _ i _ => s.nodes.length - (intOf i).toNat)
    case atStart => exact ⟨0, Nat.zero_le _, rfl, ⟨_, _, _, rfl⟩, own_nil _ _ _ _, Below.refl _ _⟩
    case round =>
      obtain ⟨k, hk, rfl, ⟨Ao, no, co, rfl⟩, hown, hbw⟩ := hrel
      by_cases hlt : k < s.nodes.length
      · obtain ⟨lb0, lb1, lb2, lb3, lb4, lb5, lb6, lb7, lb8, lb9⟩ := p _ hbw
        have hsn := rcs_succ s x l k0 k
        have Hsn := Lib.hid hsn
        clear hsn
        go_wp2_with fail
        refine (aReceived0 s x l k0 k _ _ hsv hk0 (HSC.out.mono (b_then hbA hbw))).mono ?_
        rintro e w5 ⟨rfl, hb5⟩
        have hownI := own_below hown hb5
        have hbwi := b_then hbw hb5
        have hcl := rcs_len s x l k0 k
        have hbase : W2.heap.size ≤ w5.heap.size := hbwi.size
        have Hs2 := Hsn.out
        rcases Bool.eq_false_or_eq_true (recvB s x l k0 k) with y | y
        · rw [y] at Hs2 ⊢
          simp only [if_true] at Hs2
          have Hs3 := Lib.hid Hs2
          clear Hs2 y Hsn hown
          go_wp2_with ((at_builtin; refine append_num (w0 := W2) W2.heap.size rfl (.tmp 35) (.tmp 37) 23 3 rfl Tryz.underlying23 infoInt' (.slice Ao no co) (rcsTo s x l k0 k) (k : Int) rfl rfl hownI hbwi hbase (by omega) ?_; intro v1 w1 hown1 hb1x hg1 hat1; obtain ⟨A2, c2, rfl⟩ := own_slice hown1))
          go_roundw
          case rel => exact ⟨k + 1, by omega, by go_num, ⟨_, _, _, rfl⟩, by rw [Hs3.out]; simpa using hown1, hb1x⟩
          case measure => simp [intOf]; omega
        · rw [y] at Hs2 ⊢
          simp only [Bool.false_eq_true, if_false] at Hs2
          have Hs3 := Lib.hid Hs2
          clear Hs2 y Hsn
          go_wp2
          go_roundw
          case rel => exact ⟨k + 1, by omega, by go_num, ⟨_, _, _, rfl⟩, by rw [Hs3.out]; exact hownI, hbwi⟩
          case measure => simp [intOf]; omega
      · obtain rfl : k = s.nodes.length := by omega
        go_wp2
        go_ret2
        exact ⟨_, rfl, by rw [HNe.out]; exact own_weak hown hbz3.size, b_then hbz3 hbw⟩
  · have g0 : (R == 0) = false := by simpa using z
    have g1 : (R != 0) = true := by simpa using z
    have zz : ¬ chkE s x l i 0 = 0 := fun h => z (HR.out.symm.trans h)
    have hN0 : N = [] := by rw [← HN.out]; simp only [rcsN, if_neg zz]
    subst hN0
    rw [HR.out]
    clear z zz
    go_wp2
    go_ret2
    exact ⟨_, rfl, own_nil _ _ _ _, b_then hbz2 (b_alloc (Below.refl _ _) _)⟩
end Go.Proofs.YtpbhoeaadnemhaaGreat
namespace Go.Proofs.YtpbhoeaadnemhaaGreat
open Go.RowKit Go.Shelf
set_option linter.unusedVariables false
set_option linter.unusedSimpArgs false
set_option maxHeartbeats 4000000
set_option maxRecDepth 100000
theorem xNaN (n : Int) (w : World) : Calls Tryz.prog 116 #[.int .i64 n] w fun e w' => e = .returned (.bool false) ∧ w = w' := by
  go_enter Tryz.func116, Tryz.ntmps116
  go_wp2
  go_ret
  exact ⟨ret_bool (by simp), rfl⟩
def fewS (s : Site) (x : Spm) (l : List Em) : Bool := decide (s.nodes.length ≤ 40) && decide (s.powers.length ≤ 40) && decide (s.walls.length ≤ 40) && fewB x && decide (l.length ≤ 50)
theorem r07Few (s : Site) (x : Spm) (l : List Em) (v xv lv : Value) (w : World) (hs : SiteV w v s) (hx : SpmV w xv x) (hl : SlV 4 KEm w lv l) :
    Calls Tryz.prog 20 #[v, xv, lv] w fun e w' => e = .returned (.bool (fewS s x l)) ∧ Below w.heap.size w w' := by
  have hu := Tryz.underlying26
  have hu2 := Tryz.underlying30
  have hs' := Lib.hid hs
  obtain ⟨v0, v1, v2, rfl, h0, h1, h2⟩ := hs
  obtain ⟨A0, c0, rfl, hc0, hm0, hr0⟩ := h0
  obtain ⟨A1, c1, rfl, hc1, hm1, hr1⟩ := h1
  obtain ⟨A2, c2, rfl, hc2, hm2, hr2⟩ := h2
  unfold big at hm0 hm1 hm2
  have hx' := Lib.hid hx
  obtain ⟨x0, x1, rfl, h3, h4⟩ := hx
  have H3 := Lib.hid h3
  have H4 := Lib.hid h4
  obtain ⟨A3, c3, rfl, hc3, hm3, hr3⟩ := h3
  obtain ⟨A4, c4, rfl, hc4, hm4, hr4⟩ := h4
  unfold big at hm3 hm4
  have hl' := Lib.hid hl
  obtain ⟨A5, c5, rfl, hc5, hm5, hr5⟩ := hl
  unfold big at hm5
  obtain ⟨W1, hW1⟩ : ∃ W : World, W = ((w.alloc (.cells #[.slice A0 s.nodes.length c0, .slice A1 s.powers.length c1, .slice A2 s.walls.length c2, .int .i64 s.ex, .int .i64 s.noise, .int .i64 s.thr] 26)).alloc (.cells #[.slice A3 x.srcs.length c3, .slice A4 x.fds.length c4] 30)) := ⟨_, rfl⟩; have hb1 : Below w.heap.size w W1 := (by rw [hW1]; (repeat (first | exact Below.refl _ _ | assumption | apply b_alloc | apply b_drewN | apply b_drew))); have q : ∀ wq : World, Below W1.heap.size W1 wq → wq.cell? ⟨w.heap.size, 0, none⟩ = some (.slice A0 s.nodes.length c0) ∧ wq.cell? ⟨w.heap.size, 1, none⟩ = some (.slice A1 s.powers.length c1) ∧ wq.cell? ⟨w.heap.size, 2, none⟩ = some (.slice A2 s.walls.length c2) ∧ wq.cell? ⟨w.heap.size, 3, none⟩ = some (.int .i64 s.ex) ∧ wq.cell? ⟨w.heap.size, 4, none⟩ = some (.int .i64 s.noise) ∧ wq.cell? ⟨w.heap.size, 5, none⟩ = some (.int .i64 s.thr) ∧ wq.cell? ⟨w.heap.size + 1, 0, none⟩ = some (.slice A3 x.srcs.length c3) ∧ wq.cell? ⟨w.heap.size + 1, 1, none⟩ = some (.slice A4 x.fds.length c4) := (fun wq hwr => ⟨cell_mono hwr (by rw [hW1]; go_simp), cell_mono hwr (by rw [hW1]; go_simp), cell_mono hwr (by rw [hW1]; go_simp), cell_mono hwr (by rw [hW1]; go_simp), cell_mono hwr (by rw [hW1]; go_simp), cell_mono hwr (by rw [hW1]; go_simp), cell_mono hwr (by rw [hW1]; go_simp), cell_mono hwr (by rw [hW1]; go_simp)⟩); have HW := Lib.hid hW1; clear hW1
  obtain ⟨R, hR⟩ : ∃ R, fewS s x l = R := ⟨_, rfl⟩
  rw [hR]
  have HR := Lib.hid hR
  clear hR
  go_enter Tryz.func20, Tryz.ntmps20
  go_wp2_with fail
  rw [← HW.out]
  have hbA1 : Below W1.heap.size W1 W1 := Below.refl _ _
  refine (r05Few s _ _ (hs'.out.mono hb1)).mono ?_
  rintro e w2 ⟨rfl, hbA2⟩
  have hbz2 := b_then hb1 hbA2
  obtain ⟨l20, l21, l22, l23, l24, l25, l26, l27⟩ := q _ hbA2
  rcases Bool.eq_false_or_eq_true (decide (s.nodes.length ≤ 40) && decide (s.powers.length ≤ 40) && decide (s.walls.length ≤ 40)) with q1 | q1
  rotate_left
  · have hRe : R = false := by rw [← HR.out, fewS, q1]; rfl
    subst hRe
    rw [q1]
    clear q1
    go_wp2
    go_ret
    exact ⟨rfl, hbz2⟩
  rw [q1]
  have Q1 := Lib.hid q1
  clear q1
  go_wp2_with fail
  refine (r06Few x _ _ (hx'.out.mono hbz2)).mono ?_
  rintro e w3 ⟨rfl, hb3⟩
  have hbA3 := b_then hbA2 hb3
  have hbz3 := b_then hb1 hbA3
  try clear l20 l21 l22 l23 l24 l25 l26 l27
  obtain ⟨l30, l31, l32, l33, l34, l35, l36, l37⟩ := q _ hbA3
  rcases Bool.eq_false_or_eq_true (fewB x) with q2 | q2
  · have hRe : R = decide (l.length ≤ 50) := by rw [← HR.out, fewS, Q1.out, q2]; rfl
    have HRe := Lib.hid hRe
    rw [q2]
    clear q2 hRe
    go_wp2
    go_ret
    exact ⟨ret_bool (by rw [HRe.out, Bool.eq_iff_iff]; simp; try omega), hbz3⟩
  · have hRe : R = false := by rw [← HR.out, fewS, Q1.out, q2]; rfl
    subst hRe
    rw [q2]
    clear q2
    go_wp2
    go_ret
    exact ⟨rfl, hbz3⟩
theorem lFew (s : Site) (x : Spm) (l : List Em) {A0 A1 A2 A3 A4 A5 : Option Addr} {c0 c1 c2 c3 c4 c5 : Nat} (w : World) (hs : SiteV w (.agg #[.slice A0 s.nodes.length c0, .slice A1 s.powers.length c1, .slice A2 s.walls.length c2, .int .i64 s.ex, .int .i64 s.noise, .int .i64 s.thr]) s) (hx : SpmV w (.agg #[.slice A3 x.srcs.length c3, .slice A4 x.fds.length c4]) x) (hl : SlV 4 KEm w (.slice A5 l.length c5) l) :
    Calls Tryz.prog 6 #[.agg #[.slice A0 s.nodes.length c0, .slice A1 s.powers.length c1, .slice A2 s.walls.length c2, .int .i64 s.ex, .int .i64 s.noise, .int .i64 s.thr, .slice A3 x.srcs.length c3, .slice A4 x.fds.length c4, .slice A5 l.length c5]] w fun e w' => e = .returned (.bool (fewS s x l)) ∧ Below w.heap.size w w' := by
  have hu := Tryz.underlying33
  have hs' := Lib.hid hs
  have hx' := Lib.hid hx
  have hl' := Lib.hid hl
  clear hs hx hl
  obtain ⟨W1, hW1⟩ : ∃ W : World, W = (w.alloc (.cells #[.slice A0 s.nodes.length c0, .slice A1 s.powers.length c1, .slice A2 s.walls.length c2, .int .i64 s.ex, .int .i64 s.noise, .int .i64 s.thr, .slice A3 x.srcs.length c3, .slice A4 x.fds.length c4, .slice A5 l.length c5] 33)) := ⟨_, rfl⟩; have hb1 : Below w.heap.size w W1 := (by rw [hW1]; (repeat (first | exact Below.refl _ _ | assumption | apply b_alloc | apply b_drewN | apply b_drew))); have q : ∀ wq : World, Below W1.heap.size W1 wq → wq.cell? ⟨w.heap.size, 0, none⟩ = some (.slice A0 s.nodes.length c0) ∧ wq.cell? ⟨w.heap.size, 1, none⟩ = some (.slice A1 s.powers.length c1) ∧ wq.cell? ⟨w.heap.size, 2, none⟩ = some (.slice A2 s.walls.length c2) ∧ wq.cell? ⟨w.heap.size, 3, none⟩ = some (.int .i64 s.ex) ∧ wq.cell? ⟨w.heap.size, 4, none⟩ = some (.int .i64 s.noise) ∧ wq.cell? ⟨w.heap.size, 5, none⟩ = some (.int .i64 s.thr) ∧ wq.cell? ⟨w.heap.size, 6, none⟩ = some (.slice A3 x.srcs.length c3) ∧ wq.cell? ⟨w.heap.size, 7, none⟩ = some (.slice A4 x.fds.length c4) ∧ wq.cell? ⟨w.heap.size, 8, none⟩ = some (.slice A5 l.length c5) := (fun wq hwr => ⟨cell_mono hwr (by rw [hW1]; go_simp), cell_mono hwr (by rw [hW1]; go_simp), cell_mono hwr (by rw [hW1]; go_simp), cell_mono hwr (by rw [hW1]; go_simp), cell_mono hwr (by rw [hW1]; go_simp), cell_mono hwr (by rw [hW1]; go_simp), cell_mono hwr (by rw [hW1]; go_simp), cell_mono hwr (by rw [hW1]; go_simp), cell_mono hwr (by rw [hW1]; go_simp)⟩); have HW := Lib.hid hW1; clear hW1
  go_enter Tryz.func6, Tryz.ntmps6
  go_wp2_with fail
  rw [← HW.out]
  refine (r07Few s x l _ _ _ _ (hs'.out.mono hb1) (hx'.out.mono hb1) (hl'.out.mono KEm.st hb1)).mono ?_
  rintro e w2 ⟨rfl, hb2⟩
  go_wp2
  go_ret
  exact ⟨rfl, b_then hb1 hb2⟩
end Go.Proofs.YtpbhoeaadnemhaaGreat
namespace Go.Proofs.YtpbhoeaadnemhaaGreat
open Go.RowKit Go.ChangeShapes Go.WideShapes
set_option linter.unusedVariables false
set_option linter.unusedSimpArgs false
set_option maxRecDepth 100000
theorem oem : Opens Tryz.prog KEm 42 := by
  intro H enc w fuel cs x h hw
  obtain ⟨hl, hf⟩ := trod_fields Tryz.underlying42 h hw
  rw [show Tryz.prog.cellsOf 42 = 4 by kernel_rfl] at hl
  obtain _ | ⟨c0, cs⟩ := cs
  · simp at hl
  obtain _ | ⟨c1, cs⟩ := cs
  · simp at hl
  obtain _ | ⟨c2, cs⟩ := cs
  · simp at hl
  obtain _ | ⟨c3, cs⟩ := cs
  · simp at hl
  obtain _ | ⟨cz, cs⟩ := cs
  rotate_left
  · simp at hl
  obtain ⟨a0, e0⟩ := (oi).part (hf 0 _ rfl) (cs' := [c0]) (by simp [ci])
  obtain ⟨a1, e1⟩ := (oi).part (hf 1 _ rfl) (cs' := [c1]) (by simp [ci])
  obtain ⟨a2, e2⟩ := (oi).part (hf 2 _ rfl) (cs' := [c2]) (by simp [ci])
  obtain ⟨a3, e3⟩ := (oi).part (hf 3 _ rfl) (cs' := [c3]) (by simp [ci])
  exact ⟨⟨a0, a1, a2, a3⟩, by simp_all [KI, KEm]⟩
def KLis (_ : World) (e : Lis) (l : List Value) : Prop := l = [.int .i64 e.node, .int .i64 e.ch, .int .i64 e.frm, .int .i64 e.to]
theorem olis : Opens Tryz.prog KLis 35 := by
  intro H enc w fuel cs x h hw
  obtain ⟨hl, hf⟩ := trod_fields Tryz.underlying35 h hw
  rw [show Tryz.prog.cellsOf 35 = 4 by kernel_rfl] at hl
  obtain _ | ⟨c0, cs⟩ := cs
  · simp at hl
  obtain _ | ⟨c1, cs⟩ := cs
  · simp at hl
  obtain _ | ⟨c2, cs⟩ := cs
  · simp at hl
  obtain _ | ⟨c3, cs⟩ := cs
  · simp at hl
  obtain _ | ⟨cz, cs⟩ := cs
  rotate_left
  · simp at hl
  obtain ⟨a0, e0⟩ := (oi).part (hf 0 _ rfl) (cs' := [c0]) (by simp [ci])
  obtain ⟨a1, e1⟩ := (oi).part (hf 1 _ rfl) (cs' := [c1]) (by simp [ci])
  obtain ⟨a2, e2⟩ := (oi).part (hf 2 _ rfl) (cs' := [c2]) (by simp [ci])
  obtain ⟨a3, e3⟩ := (oi).part (hf 3 _ rfl) (cs' := [c3]) (by simp [ci])
  exact ⟨⟨a0, a1, a2, a3⟩, by simp_all [KI, KLis]⟩
theorem oems : Opens Tryz.prog (KSl 4 KEm) 31 := opens_slice oem Tryz.underlying31 (by kernel_rfl) (by decide) (of_decide_eq_true (by kernel_rfl))
structure Scn where
  s : Site
  x : Spm
  l : List Em
def scnV (s : Site) (x : Spm) (l : List Em) (A0 : Option Addr) (c0 : Nat) (A1 : Option Addr) (c1 : Nat) (A2 : Option Addr) (c2 : Nat) (A3 : Option Addr) (c3 : Nat) (A4 : Option Addr) (c4 : Nat) (A5 : Option Addr) (c5 : Nat) : Value := .agg #[.slice A0 s.nodes.length c0, .slice A1 s.powers.length c1, .slice A2 s.walls.length c2, .int .i64 s.ex, .int .i64 s.noise, .int .i64 s.thr, .slice A3 x.srcs.length c3, .slice A4 x.fds.length c4, .slice A5 l.length c5]
/-- A scene, as an argument of a law. -/
def ScnV (w : World) (v : Value) (s : Site) (x : Spm) (l : List Em) : Prop :=
  ∃ A0 c0 A1 c1 A2 c2 A3 c3 A4 c4 A5 c5, v = .agg #[.slice A0 s.nodes.length c0, .slice A1 s.powers.length c1, .slice A2 s.walls.length c2, .int .i64 s.ex, .int .i64 s.noise, .int .i64 s.thr, .slice A3 x.srcs.length c3, .slice A4 x.fds.length c4, .slice A5 l.length c5] ∧ SiteV w (.agg #[.slice A0 s.nodes.length c0, .slice A1 s.powers.length c1, .slice A2 s.walls.length c2, .int .i64 s.ex, .int .i64 s.noise, .int .i64 s.thr]) s ∧ SpmV w (.agg #[.slice A3 x.srcs.length c3, .slice A4 x.fds.length c4]) x ∧ SlV 4 KEm w (.slice A5 l.length c5) l
def KScn (w : World) (m : Scn) (cs : List Value) : Prop := ScnV w (.agg cs.toArray) m.s m.x m.l
theorem oscn : Opens Tryz.prog KScn 33 := by
  intro H enc w fuel cs x h hw
  obtain ⟨hl, hf⟩ := trod_fields Tryz.underlying33 h hw
  have k0 : Tryz.prog.cellsOf 26 = 6 := by kernel_rfl
  have k1 : Tryz.prog.cellsOf 30 = 2 := by kernel_rfl
  have k2 : Tryz.prog.cellsOf 31 = 1 := by kernel_rfl
  rw [show Tryz.prog.cellsOf 33 = 9 by kernel_rfl] at hl
  obtain _ | ⟨c0, cs⟩ := cs
  · simp at hl
  obtain _ | ⟨c1, cs⟩ := cs
  · simp at hl
  obtain _ | ⟨c2, cs⟩ := cs
  · simp at hl
  obtain _ | ⟨c3, cs⟩ := cs
  · simp at hl
  obtain _ | ⟨c4, cs⟩ := cs
  · simp at hl
  obtain _ | ⟨c5, cs⟩ := cs
  · simp at hl
  obtain _ | ⟨c6, cs⟩ := cs
  · simp at hl
  obtain _ | ⟨c7, cs⟩ := cs
  · simp at hl
  obtain _ | ⟨c8, cs⟩ := cs
  · simp at hl
  obtain _ | ⟨cz, cs⟩ := cs
  rotate_left
  · simp at hl
  obtain ⟨a0, e0⟩ := (osite).part (hf 0 _ rfl) (cs' := [c0, c1, c2, c3, c4, c5]) (by simp [k0])
  obtain ⟨a1, e1⟩ := (ox).part (hf 1 _ rfl) (cs' := [c6, c7]) (by simp [k1])
  obtain ⟨a2, e2⟩ := (oems).part (hf 2 _ rfl) (cs' := [c8]) (by simp [k2])
  have e0' := e0
  obtain ⟨v0, v1, v2, h0, ⟨A0, n0, rfl, _⟩, ⟨A1, n1, rfl, _⟩, ⟨A2, n2, rfl, _⟩⟩ := e0
  have e1' := e1
  obtain ⟨v3, v4, h1, ⟨A3, n3, rfl, _⟩, ⟨A4, n4, rfl, _⟩⟩ := e1
  obtain ⟨v5, h5, h2⟩ := e2
  have h2' := h2
  obtain ⟨A5, n5, rfl, _⟩ := h2
  simp only [List.toArray, Value.agg.injEq, List.toArray_eq_iff] at h0 h1
  simp at h0 h1 h5
  obtain ⟨rfl, rfl, rfl, rfl, rfl, rfl⟩ := h0
  obtain ⟨rfl, rfl⟩ := h1
  subst h5
  exact ⟨⟨a0, a1, a2⟩, A0, n0, A1, n1, A2, n2, A3, n3, A4, n4, A5, n5, rfl, e0', e1', h2'⟩
end Go.Proofs.YtpbhoeaadnemhaaGreat
