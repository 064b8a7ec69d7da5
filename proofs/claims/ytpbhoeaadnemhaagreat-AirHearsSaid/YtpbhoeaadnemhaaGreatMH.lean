/- Disturbers: the program. -/
import Derived.Test.YtpbhoeaadnemhaaGreatMF
import Derived.Maps.OwnIn
namespace Go.Proofs.YtpbhoeaadnemhaaGreat
open Go.RowKit Go.Shelf
attribute [local go_sem] Oper.semAt_some
set_option linter.unusedVariables false
set_option linter.unusedSimpArgs false
set_option maxHeartbeats 4000000
set_option maxRecDepth 100000
/-- append(v, y), a number, inside a fence: behind 'gi_at_builtin'. -/
theorem append_numIn {F : Fence} {n : Nat} {P : Program} {ops : Array Oper} {rest : List Oper} {o : Oper} {a : Act} {Q : Exit → Act → World → Prop} {W : World} (base : Nat) {B : Nat} (hB : B = W.heap.size) (hgd : o.guard = none) (s x : Operand) (t e : TypeId)
    (ho : o.op = .call { callee := .builtin .append, args := #[s, x], argTypes := #[t, t] })
    (ht : P.underlying t = some (.slice e)) (hinfo : (P.info? e).map (fun i => (i.zero, i.size, i.bytes)) = some (some (.int .i64 0), 1, 8))
    (v : Value) (xs : List Int) (y : Int) (hs : a.eval s = v) (hx : a.eval x = .slice (some ⟨B, 0, none⟩) 1 1)
    (HO : W.ownsRow base e 1 v xs.length (xs.map (Value.int .i64))) (hbase : base ≤ W.heap.size) (hl : (xs.length + 1) * 8 ≤ 140737488355328)
    (h : ∀ v1 w1, w1.ownsRow base e 1 v1 (xs ++ [y]).length ((xs ++ [y]).map (Value.int .i64)) → W.grownBy w1 v.ownBlock → wpListIn F n P ops Q rest (a.put o.dst v1) w1) :
    wpListIn F n P ops Q (o :: rest) a (W.alloc (.cells #[.int .i64 y] e)) := by
  subst hB
  obtain ⟨i0, hi, hzz⟩ := Option.map_eq_some_iff.1 hinfo
  simp only [Prod.mk.injEq] at hzz
  obtain ⟨hz0, hz1, hz2⟩ := hzz
  refine wpListIn_append_own_at (W.alloc (.cells #[.int .i64 y] e)) hgd s x t ho base e i0 (.int .i64 0) 1 8 ht hi hz0 hz1 hz2 rfl (by omega) v xs.length _ hs (HO.alloc _) ⟨W.heap.size, 0, none⟩ 1 1 [.int .i64 y] hx rfl
    (World.news_of_block (cs := #[.int .i64 y]) (t := e) (fr := (0, 0)) (heap_alloc_new W _)) (by simp [Value.oneCell']) (by simp only [maxLen]; omega) hl (by simp; omega) ?_
  intro v1 w1 hown hg _ hat
  exact h v1 w1 (by simpa using hown) (World.grownBy.trans (World.grownBy_alloc W _ _) hg)
theorem aHeardV (s : Site) (hs : siteB s = true) (B : Nat) (p n : Int) (p0 : 0 ≤ p) (p1 : p ≤ 68719476736) (w : World) {c : Bool} (h4 : w.cell? ⟨B, 4, none⟩ = some (.int .i64 s.noise)) (h5 : w.cell? ⟨B, 5, none⟩ = some (.int .i64 s.thr)) (h : hearB s p n = c) :
    Calls Tryz.prog 40 #[.int .i64 p, .int .i64 n, .pointer (some ⟨B, 0, none⟩)] w fun e w' => e = .returned (.bool c) ∧ w = w' := h ▸ aHeard s hs B p n p0 p1 w h4 h5
theorem aReceived0V (s : Site) (x : Spm) (l : List Em) (i : Nat) (node : Int) (v : Value) (w : World) {c : Bool} (hv : siteB s = true) (hi : i < l.length) (hsc : ScV w v s x l) (h : recvB s x l i node = c) :
    Calls Tryz.prog 22 #[v, .int .i64 i, .int .i64 node] w fun e w' => e = .returned (.bool c) ∧ Below w.heap.size w w' := h ▸ aReceived0 s x l i node v w hv hi hsc
/-- The list that a range over the others builds, in a box of its own. -/
def DisJ (base B : Nat) (W0 : World) (pre : List Nat) (W : World) : Prop :=
  (∃ A c, Boxed W B 23 (.slice A pre.length c) ∧ W.ownsRow base 3 1 (.slice A pre.length c) (pre.map fun (k : Nat) => (k : Int)).length ((pre.map fun (k : Nat) => (k : Int)).map (Value.int .i64))) ∧ Bbt base B W0 W
theorem own_keptR {W W' : World} {row : Option Nat} {base n sz : Nat} {e : TypeId} {v : Value} {xs : List Value} (h : W.ownsRow base e sz v n xs) (hg : W.grownBy W' row) (hr : ∀ r, row = some r → ∃ o : Obj, W.heap[r]? = some o ∧ o.isCells = false) : W'.ownsRow base e sz v n xs := by
  refine h.kept hg ?_
  rcases h.2 with ⟨rfl, _⟩ | ⟨g, cap, cur, rfl, _, hh, _⟩
  · exact .inl rfl
  · refine .inr fun e' => ?_
    have e2 : some g = row := by simpa [Value.ownBlock] using e'
    obtain ⟨o, ho, hc⟩ := hr g e2.symm
    rw [hh] at ho
    cases ho
    cases hc
theorem disJ_own {base B b0 : Nat} {W0 : World} (h0 : base ≤ W0.heap.size) (hb : base ≤ b0) : OwnFrom b0 (DisJ base B W0) := by
  intro pre W W' row hs hg hr
  obtain ⟨⟨A, c, h1, h2⟩, h3⟩ := hs
  refine ⟨⟨A, c, h1.kept hg (fun e' => ?_), own_keptR h2 hg fun r hr' => (hr r hr').2⟩, ownFrom_bbt (β := Unit) h0 hb () W W' row h3 hg hr⟩
  obtain ⟨_, o, ho, hc⟩ := hr B e'.symm
  rw [show W.heap[B]? = _ from h1] at ho
  cases ho
  cases hc
theorem aDisturbers (s : Site) (x : Spm) (l : List Em) (i node : Int) (v xv lv : Value) (w : World) (hs : SiteV w v s) (hx : SpmV w xv x) (hl : SlV 4 KEm w lv l) :
    Calls Tryz.prog 10 #[v, xv, lv, .int .i64 i, .int .i64 node] w fun e w' => ∃ u, e = .returned (.tuple #[u, .int .i64 (chkE s x l i node)]) ∧ SlV 1 KI w' u (disN s x l i node) ∧ Below w.heap.size w w' := by
  have hu := Tryz.underlying26
  have hu2 := Tryz.underlying30
  have hu3 := Tryz.underlying42
  have hu4 := Tryz.underlying59
  have hu5 := Tryz.underlying23
  obtain ⟨R, hR⟩ : ∃ R, chkE s x l i node = R := ⟨_, rfl⟩
  obtain ⟨N, hN⟩ : ∃ N, disN s x l i node = N := ⟨_, rfl⟩
  rw [hR, hN]
  have HR := Lib.hid hR
  have HN := Lib.hid hN
  clear hR hN
  have hs' := Lib.hid hs
  obtain ⟨v0, v1, v2, rfl, h0, h1, h2⟩ := hs
  obtain ⟨A0, c0, rfl, hc0, hm0, hr0⟩ := h0
  obtain ⟨A1, c1, rfl, hc1, hm1, hr1⟩ := h1
  obtain ⟨A2, c2, rfl, hc2, hm2, hr2⟩ := h2
  unfold big at hm0 hm1 hm2
  have hx' := Lib.hid hx
  obtain ⟨x0, x1, rfl, h3, h4⟩ := hx
  have H3 := Lib.hid h3
  have H4 := Lib.hid h4
  obtain ⟨A3, c3, rfl, hc3, hm3, hr3⟩ := h3
  obtain ⟨A4, c4, rfl, hc4, hm4, hr4⟩ := h4
  unfold big at hm3 hm4
  have hl' := Lib.hid hl
  obtain ⟨A5, c5, rfl, hc5, hm5, hr5⟩ := hl
  unfold big at hm5
  obtain ⟨W1, hW1⟩ : ∃ W : World, W = ((w.alloc (.cells #[.slice A0 s.nodes.length c0, .slice A1 s.powers.length c1, .slice A2 s.walls.length c2, .int .i64 s.ex, .int .i64 s.noise, .int .i64 s.thr] 26)).alloc (.cells #[.slice A3 x.srcs.length c3, .slice A4 x.fds.length c4] 30)) := ⟨_, rfl⟩; have hb1 : Below w.heap.size w W1 := (by rw [hW1]; (repeat (first | exact Below.refl _ _ | assumption | apply b_alloc | apply b_drewN | apply b_drew))); have q : ∀ wq : World, Below W1.heap.size W1 wq → wq.cell? ⟨w.heap.size, 0, none⟩ = some (.slice A0 s.nodes.length c0) ∧ wq.cell? ⟨w.heap.size, 1, none⟩ = some (.slice A1 s.powers.length c1) ∧ wq.cell? ⟨w.heap.size, 2, none⟩ = some (.slice A2 s.walls.length c2) ∧ wq.cell? ⟨w.heap.size, 3, none⟩ = some (.int .i64 s.ex) ∧ wq.cell? ⟨w.heap.size, 4, none⟩ = some (.int .i64 s.noise) ∧ wq.cell? ⟨w.heap.size, 5, none⟩ = some (.int .i64 s.thr) ∧ wq.cell? ⟨w.heap.size + 1, 0, none⟩ = some (.slice A3 x.srcs.length c3) ∧ wq.cell? ⟨w.heap.size + 1, 1, none⟩ = some (.slice A4 x.fds.length c4) := (fun wq hwr => ⟨cell_mono hwr (by rw [hW1]; go_simp), cell_mono hwr (by rw [hW1]; go_simp), cell_mono hwr (by rw [hW1]; go_simp), cell_mono hwr (by rw [hW1]; go_simp), cell_mono hwr (by rw [hW1]; go_simp), cell_mono hwr (by rw [hW1]; go_simp), cell_mono hwr (by rw [hW1]; go_simp), cell_mono hwr (by rw [hW1]; go_simp)⟩); have HW := Lib.hid hW1; clear hW1
  refine (callsIn_wide (n := 10)).1 (callsIn_of_wp_marks Tryz.func10 rfl trivial (wpIn_wide.2 ?_) rfl)
  simp only [Tryz.ntmps10, List.size_toArray, List.length_cons, List.length_nil, Nat.reduceAdd, Nat.reduceSub, Array.replicate_succ, Array.replicate_zero, List.push_toArray, List.append_toArray, List.nil_append, List.cons_append]
  go_wp2_with fail
  rw [← HW.out]
  refine (aCheck2 s x l i node _ (hs'.out.mono hb1) (hx'.out.mono hb1) (hl'.out.mono KEm.st hb1)).mono ?_
  rintro e w2 ⟨rfl, k4, k5, hb2⟩
  have hbz2 := b_then hb1 hb2
  have hsc : ScV w2 (.agg #[.slice A0 s.nodes.length c0, .slice A1 s.powers.length c1, .slice A2 s.walls.length c2, .int .i64 s.ex, .int .i64 s.noise, .int .i64 s.thr, .slice A3 x.srcs.length c3, .slice A4 x.fds.length c4, .slice A5 l.length c5, .func (.func 40) #[] #[.pointer (some ⟨W1.heap.size + 1 + 1 + 1, 0, none⟩)]]) s x l := ⟨A0, c0, A1, c1, A2, c2, A3, c3, A4, c4, A5, c5, _, rfl, hs'.out.mono hbz2, hx'.out.mono hbz2, hl'.out.mono KEm.st hbz2, k4, k5⟩
  have HSC := Lib.hid hsc
  clear hsc
  obtain ⟨W2, hW2⟩ : ∃ W : World, W = (w2.alloc (.cells #[.slice A0 s.nodes.length c0, .slice A1 s.powers.length c1, .slice A2 s.walls.length c2, .int .i64 s.ex, .int .i64 s.noise, .int .i64 s.thr, .slice A3 x.srcs.length c3, .slice A4 x.fds.length c4, .slice A5 l.length c5, .func (.func 40) #[] #[.pointer (some ⟨W1.heap.size + 1 + 1 + 1, 0, none⟩)]] 59)) := ⟨_, rfl⟩; have hbA : Below w2.heap.size w2 W2 := (by rw [hW2]; (repeat (first | exact Below.refl _ _ | assumption | apply b_alloc | apply b_drewN | apply b_drew))); have p : ∀ wq : World, Below W2.heap.size W2 wq → wq.cell? ⟨w2.heap.size, 0, none⟩ = some (.slice A0 s.nodes.length c0) ∧ wq.cell? ⟨w2.heap.size, 1, none⟩ = some (.slice A1 s.powers.length c1) ∧ wq.cell? ⟨w2.heap.size, 2, none⟩ = some (.slice A2 s.walls.length c2) ∧ wq.cell? ⟨w2.heap.size, 3, none⟩ = some (.int .i64 s.ex) ∧ wq.cell? ⟨w2.heap.size, 4, none⟩ = some (.int .i64 s.noise) ∧ wq.cell? ⟨w2.heap.size, 5, none⟩ = some (.int .i64 s.thr) ∧ wq.cell? ⟨w2.heap.size, 6, none⟩ = some (.slice A3 x.srcs.length c3) ∧ wq.cell? ⟨w2.heap.size, 7, none⟩ = some (.slice A4 x.fds.length c4) ∧ wq.cell? ⟨w2.heap.size, 8, none⟩ = some (.slice A5 l.length c5) ∧ wq.cell? ⟨w2.heap.size, 9, none⟩ = some (.func (.func 40) #[] #[.pointer (some ⟨W1.heap.size + 1 + 1 + 1, 0, none⟩)]) := (fun wq hwr => ⟨cell_mono hwr (by rw [hW2]; go_simp), cell_mono hwr (by rw [hW2]; go_simp), cell_mono hwr (by rw [hW2]; go_simp), cell_mono hwr (by rw [hW2]; go_simp), cell_mono hwr (by rw [hW2]; go_simp), cell_mono hwr (by rw [hW2]; go_simp), cell_mono hwr (by rw [hW2]; go_simp), cell_mono hwr (by rw [hW2]; go_simp), cell_mono hwr (by rw [hW2]; go_simp), cell_mono hwr (by rw [hW2]; go_simp)⟩); have HX := Lib.hid hW2; clear hW2
  have hbz3 := b_then hbz2 hbA
  by_cases z : R = 0
  rotate_left
  · have g0 : (R == 0) = false := by simpa using z
    have g1 : (R != 0) = true := by simpa using z
    have zz : ¬ chkE s x l i node = 0 := fun h => z (HR.out.symm.trans h)
    have hN0 : N = [] := by rw [← HN.out]; simp only [disN, if_neg zz]
    subst hN0
    rw [HR.out]
    clear z zz
    go_wp2
    exact ⟨_, results_tmp2 rfl _ _ _, _, ret_two rfl rfl, ⟨none, 0, rfl, Nat.le_refl _, Nat.zero_le _, fun h => absurd rfl h⟩, b_then hbz2 (b_alloc (Below.refl _ _) _)⟩
  have zz : chkE s x l i node = 0 := HR.out.trans z
  obtain ⟨hE, hin, k, rfl, hk0⟩ := chk_zero zz
  have hsv := (valid_of hE).site
  have hlen := (valid_of hE).len
  subst z
  have hNe : N = disI s x l k node := by rw [← HN.out]; simp only [disN, zz, if_true, Int.toNat_natCast]
  rw [zz]
  have HNe := Lib.hid hNe
  clear hE zz hin hNe
  have hsL : ∀ z : Later W2, ScV z.W (.agg #[.slice A0 s.nodes.length c0, .slice A1 s.powers.length c1, .slice A2 s.walls.length c2, .int .i64 s.ex, .int .i64 s.noise, .int .i64 s.thr, .slice A3 x.srcs.length c3, .slice A4 x.fds.length c4, .slice A5 l.length c5, .func (.func 40) #[] #[.pointer (some ⟨W1.heap.size + 1 + 1 + 1, 0, none⟩)]]) s x l := fun z => HSC.out.mono (b_then hbA z.below)
  have HSL := Lib.hid hsL
  have hk4 : ∀ z : Later W2, z.W.cell? ⟨W1.heap.size + 1 + 1 + 1, 4, none⟩ = some (.int .i64 s.noise) := fun z => cell_mono (b_then hbA z.below) k4
  have hk5 : ∀ z : Later W2, z.W.cell? ⟨W1.heap.size + 1 + 1 + 1, 5, none⟩ = some (.int .i64 s.thr) := fun z => cell_mono (b_then hbA z.below) k5
  have HK4 := Lib.hid hk4
  have HK5 := Lib.hid hk5
  clear hsL hk4 hk5 k4 k5
  obtain ⟨n0, n1, n2, n3, n4, n5, n6, n7, n8, n9⟩ := p _ (Below.refl _ _); have Ln0 := Later.cell n0; have Ln1 := Later.cell n1; have Ln2 := Later.cell n2; have Ln3 := Later.cell n3; have Ln4 := Later.cell n4; have Ln5 := Later.cell n5; have Ln6 := Later.cell n6; have Ln7 := Later.cell n7; have Ln8 := Later.cell n8; have Ln9 := Later.cell n9
  have hg := emD_get hk0
  have i0 : (0 : Int) ≤ (k : Int) := by omega
  have i1 : (k : Int) < (l.length : Int) := by omega
  obtain ⟨b, off, hAe, e0, e1, e2, e3⟩ := hr5.em hbz3 hg
  subst hAe
  have E0 := Later.cell e0
  have E1 := Later.cell e1
  have E2 := Later.cell e2
  have E3 := Later.cell e3
  clear hg e0 e1 e2 e3
  obtain ⟨p0, p1⟩ := sig_bd s x (emD l k).node node (emD l k).ch (emD l k).frm
  have hp0 : 0 ≤ sigI s x (emD l k) node := p0
  have hp1 : sigI s x (emD l k) node ≤ 68719476736 := p1
  have HP0 := Lib.hid hp0
  have HP1 := Lib.hid hp1
  clear p0 p1 hp0 hp1
  rcases Bool.eq_false_or_eq_true (freeB l (emD l k) node) with hf | hf
  rotate_left
  · have hlost : lostB s x l k node = false := by simp [lost_iff, hf]
    go_wp2_with fail
    rw [← HX.out]
    refine wp_region_later (by kernel_rfl) (by kernel_rfl) ?_
    repeat (go_big_quiet_step ((first
      | (go_at_call 27; exact later_of (aFreeV s x l k node _ _ hk0 (HSL.out _) (by with_reducible assumption)))
      | (go_at_call 28; exact later_of (aSignal s x l (emD l k) node _ _ (HSL.out _)))
      | (go_at_call 29; exact later_of (aExternal s x l k node _ _ hk0 (HSL.out _)))
      | (go_at_call 22; exact later_of (aReceived0V s x l k node _ _ hsv hk0 (HSL.out _) (by with_reducible assumption)))
      | (go_at_call 40; exact later_same (aHeardV s hsv _ (sigI s x (emD l k) node) (extI s x (emD l k) node) HP0.out HP1.out _ (HK4.out _) (HK5.out _) (by with_reducible assumption))))))
    refine wpQuiet_nil ?_
    rintro _ ⟨z, rfl⟩
    have hNe : N = [] := by rw [HNe.out]; simp only [disI, hlost]; rfl
    subst hNe
    go_wp2
    exact ⟨_, results_tmp2 rfl _ _ _, _, ret_two rfl rfl, ⟨none, 0, rfl, Nat.le_refl _, Nat.zero_le _, fun h => absurd rfl h⟩, b_then hbz3 z.below⟩
  rcases Bool.eq_false_or_eq_true (hearB s (sigI s x (emD l k) node) (extI s x (emD l k) node)) with hh | hh
  rotate_left
  · have hlost : lostB s x l k node = false := by simp [lost_iff, hh]
    go_wp2_with fail
    rw [← HX.out]
    refine wp_region_later (by kernel_rfl) (by kernel_rfl) ?_
    repeat (go_big_quiet_step ((first
      | (go_at_call 27; exact later_of (aFreeV s x l k node _ _ hk0 (HSL.out _) (by with_reducible assumption)))
      | (go_at_call 28; exact later_of (aSignal s x l (emD l k) node _ _ (HSL.out _)))
      | (go_at_call 29; exact later_of (aExternal s x l k node _ _ hk0 (HSL.out _)))
      | (go_at_call 22; exact later_of (aReceived0V s x l k node _ _ hsv hk0 (HSL.out _) (by with_reducible assumption)))
      | (go_at_call 40; exact later_same (aHeardV s hsv _ (sigI s x (emD l k) node) (extI s x (emD l k) node) HP0.out HP1.out _ (HK4.out _) (HK5.out _) (by with_reducible assumption))))))
    refine wpQuiet_nil ?_
    rintro _ ⟨z, rfl⟩
    have hNe : N = [] := by rw [HNe.out]; simp only [disI, hlost]; rfl
    subst hNe
    go_wp2
    exact ⟨_, results_tmp2 rfl _ _ _, _, ret_two rfl rfl, ⟨none, 0, rfl, Nat.le_refl _, Nat.zero_le _, fun h => absurd rfl h⟩, b_then hbz3 z.below⟩
  rcases Bool.eq_false_or_eq_true (recvB s x l k node) with hr | hr
  · have hlost : lostB s x l k node = false := by simp [lost_iff, hr]
    go_wp2_with fail
    rw [← HX.out]
    refine wp_region_later (by kernel_rfl) (by kernel_rfl) ?_
    repeat (go_big_quiet_step ((first
      | (go_at_call 27; exact later_of (aFreeV s x l k node _ _ hk0 (HSL.out _) (by with_reducible assumption)))
      | (go_at_call 28; exact later_of (aSignal s x l (emD l k) node _ _ (HSL.out _)))
      | (go_at_call 29; exact later_of (aExternal s x l k node _ _ hk0 (HSL.out _)))
      | (go_at_call 22; exact later_of (aReceived0V s x l k node _ _ hsv hk0 (HSL.out _) (by with_reducible assumption)))
      | (go_at_call 40; exact later_same (aHeardV s hsv _ (sigI s x (emD l k) node) (extI s x (emD l k) node) HP0.out HP1.out _ (HK4.out _) (HK5.out _) (by with_reducible assumption))))))
    refine wpQuiet_nil ?_
    rintro _ ⟨z, rfl⟩
    have hNe : N = [] := by rw [HNe.out]; simp only [disI, hlost]; rfl
    subst hNe
    go_wp2
    exact ⟨_, results_tmp2 rfl _ _ _, _, ret_two rfl rfl, ⟨none, 0, rfl, Nat.le_refl _, Nat.zero_le _, fun h => absurd rfl h⟩, b_then hbz3 z.below⟩
  have hlost : lostB s x l k node = true := by simp [lost_iff, hf, hh, hr]
  go_wp2_with fail
  rw [← HX.out]
  refine wp_region_later (by kernel_rfl) (by kernel_rfl) ?_
  repeat (go_big_quiet_step ((first
    | (go_at_call 27; exact later_of (aFreeV s x l k node _ _ hk0 (HSL.out _) (by with_reducible assumption)))
    | (go_at_call 28; exact later_of (aSignal s x l (emD l k) node _ _ (HSL.out _)))
    | (go_at_call 29; exact later_of (aExternal s x l k node _ _ hk0 (HSL.out _)))
    | (go_at_call 22; exact later_of (aReceived0V s x l k node _ _ hsv hk0 (HSL.out _) (by with_reducible assumption)))
    | (go_at_call 40; exact later_same (aHeardV s hsv _ (sigI s x (emD l k) node) (extI s x (emD l k) node) HP0.out HP1.out _ (HK4.out _) (HK5.out _) (by with_reducible assumption))))))
  refine wpQuiet_nil ?_
  rintro _ ⟨z, rfl⟩
  have hNe : N = (othL l k node).map fun (k : Nat) => (k : Int) := by rw [HNe.out]; simp only [disI, hlost]; rfl
  have HNe := Lib.hid hNe
  clear hNe hlost hf hh hr
  have hzb := z.below
  have hSz := HSL.out z
  generalize z.W = w3 at *
  have hbO : Below w3.heap.size w3 (w3.alloc (.cells #[.slice none 0 0] 23)) := b_alloc (Below.refl _ _) _
  try clear n0 n1 n2 n3 n4 n5 n6 n7 n8 n9
  clear Ln0 Ln1 Ln2 Ln3 Ln4 Ln5 Ln6 Ln7 Ln8 Ln9 E0 E1 E2 E3 HK4 HK5 HSL
  obtain ⟨o0, o1, o2, o3, o4, o5, o6, o7, o8, o9⟩ := p _ (b_then hzb hbO)
  go_wp2_with fail
  refine (aOthers s x l k node _).mono ?_
  rintro e w4 ⟨rfl, rfl⟩
  go_wp2_with fail
  have hbw3 := b_then hbz3 hzb
  have hA : OtF (w3.heap.size + 1) (w3.heap.size + 1 + 1) (w3.heap.size + 1 + 1 + 1) (.slice (some ⟨b, off, none⟩) l.length c5) k node w ((((w3.alloc (.cells #[.slice none 0 0] 23)).alloc (.cells #[.slice A0 s.nodes.length c0, .slice A1 s.powers.length c1, .slice A2 s.walls.length c2, .int .i64 s.ex, .int .i64 s.noise, .int .i64 s.thr, .slice A3 x.srcs.length c3, .slice A4 x.fds.length c4, .slice (some ⟨b, off, none⟩) l.length c5, .func (.func 40) #[] #[.pointer (some ⟨W1.heap.size + 1 + 1 + 1, 0, none⟩)]] 59)).alloc (.cells #[.int .i64 k] 3)).alloc (.cells #[.int .i64 node] 3)) :=
    ⟨by go_simp, by go_simp, by go_simp, by exact b_then hbw3 (by (repeat (first | exact Below.refl _ _ | assumption | apply b_alloc | apply b_drewN | apply b_drew)))⟩
  have hB0 : Below w3.heap.size w3 ((((w3.alloc (.cells #[.slice none 0 0] 23)).alloc (.cells #[.slice A0 s.nodes.length c0, .slice A1 s.powers.length c1, .slice A2 s.walls.length c2, .int .i64 s.ex, .int .i64 s.noise, .int .i64 s.thr, .slice A3 x.srcs.length c3, .slice A4 x.fds.length c4, .slice (some ⟨b, off, none⟩) l.length c5, .func (.func 40) #[] #[.pointer (some ⟨W1.heap.size + 1 + 1 + 1, 0, none⟩)]] 59)).alloc (.cells #[.int .i64 k] 3)).alloc (.cells #[.int .i64 node] 3)) := by (repeat (first | exact Below.refl _ _ | assumption | apply b_alloc | apply b_drewN | apply b_drew))
  have hsz : ((((w3.alloc (.cells #[.slice none 0 0] 23)).alloc (.cells #[.slice A0 s.nodes.length c0, .slice A1 s.powers.length c1, .slice A2 s.walls.length c2, .int .i64 s.ex, .int .i64 s.noise, .int .i64 s.thr, .slice A3 x.srcs.length c3, .slice A4 x.fds.length c4, .slice (some ⟨b, off, none⟩) l.length c5, .func (.func 40) #[] #[.pointer (some ⟨W1.heap.size + 1 + 1 + 1, 0, none⟩)]] 59)).alloc (.cells #[.int .i64 k] 3)).alloc (.cells #[.int .i64 node] 3)).heap.size = w3.heap.size + 4 := by simp
  have hq0 := ((((Boxed.new w3 23 (.slice none 0 0)).alloc (.cells #[.slice A0 s.nodes.length c0, .slice A1 s.powers.length c1, .slice A2 s.walls.length c2, .int .i64 s.ex, .int .i64 s.noise, .int .i64 s.thr, .slice A3 x.srcs.length c3, .slice A4 x.fds.length c4, .slice (some ⟨b, off, none⟩) l.length c5, .func (.func 40) #[] #[.pointer (some ⟨W1.heap.size + 1 + 1 + 1, 0, none⟩)]] 59)).alloc (.cells #[.int .i64 k] 3)).alloc (.cells #[.int .i64 node] 3))
  generalize hW0 : ((((w3.alloc (.cells #[.slice none 0 0] 23)).alloc (.cells #[.slice A0 s.nodes.length c0, .slice A1 s.powers.length c1, .slice A2 s.walls.length c2, .int .i64 s.ex, .int .i64 s.noise, .int .i64 s.thr, .slice A3 x.srcs.length c3, .slice A4 x.fds.length c4, .slice (some ⟨b, off, none⟩) l.length c5, .func (.func 40) #[] #[.pointer (some ⟨W1.heap.size + 1 + 1 + 1, 0, none⟩)]] 59)).alloc (.cells #[.int .i64 k] 3)).alloc (.cells #[.int .i64 node] 3)) = W0 at *
  clear hW0
  refine (wpIn_wide (n := 10)).1 (wpIn_rangeFunc_ownH (F := Fence.wide) rfl (by omega) (gf := 48) (lb := #[.pointer (some ⟨w3.heap.size + 1, 0, none⟩), .pointer (some ⟨w3.heap.size + 1 + 1, 0, none⟩), .pointer (some ⟨w3.heap.size + 1 + 1 + 1, 0, none⟩)]) rfl trivial (enters_of Tryz.func48 (by kernel_rfl) rfl)
    (others1 9 (by omega) _ _ _ l k hk0 node _ w W0 hl'.out hA (Bbt W0.heap.size w3.heap.size) ?kf) bbt_t (bbt_b (Nat.le_refl _)) (Below.refl _ _) (fun _ => rfl)
    (DisJ W0.heap.size w3.heap.size W0) (fun _ _ _ => False)
    (disJ_own (Nat.le_refl _) (Nat.le_refl _)) (fun _ _ _ _ _ hs _ _ => hs) ⟨⟨none, 0, hq0, own_nil _ _ _ _⟩, Bbt.refl _ _ _⟩
    (fun (y : Nat) a' W => ∃ (u0 u1 u2 u3 u4 u5 u6 u7 u8 u9 u10 u11 u12 u13 u16 u17 u18 u19 u20 u21 u22 u23 u24 u25 u26 u27 u28 u29 u30 u31 u32 u33 u34 u35 u36 u37 u38 u39 u40 u41 u42 u43 u44 u45 u46 u47 u48 u49 u50 u51 u52 u53 u54 u55 u56 u57 u58 u59 u60 u61 u62 u63 u64 u65 u66 : Value), a' = { tmps := #[u0, u1, u2, u3, u4, u5, u6, u7, u8, u9, u10, u11, u12, u13, .pointer (some ⟨w3.heap.size, 0, none⟩), .int .i64 y, u16, u17, u18, u19, u20, u21, u22, u23, u24, u25, u26, u27, u28, u29, u30, u31, u32, u33, u34, u35, u36, u37, u38, u39, u40, u41, u42, u43, u44, u45, u46, u47, u48, u49, u50, u51, u52, u53, u54, u55, u56, u57, u58, u59, u60, u61, u62, u63, u64, u65, u66], defers := [] })
    ?ax ?assign ?body ?done ?stop)
  case kf =>
    intro X Y hXY hX
    exact ⟨(hXY.cell (by simp; omega) (by simp)).trans hX.hl, (hXY.cell (by simp; omega) (by simp; omega)).trans hX.hi, (hXY.cell (by simp; omega) (by simp; omega)).trans hX.hn, hX.below.trans (hXY.below (by have := hbw3.size; omega) (by have := hbw3.size; omega))⟩
  case ax =>
    rintro y a' _ W W' row ⟨u0, u1, u2, u3, u4, u5, u6, u7, u8, u9, u10, u11, u12, u13, u16, u17, u18, u19, u20, u21, u22, u23, u24, u25, u26, u27, u28, u29, u30, u31, u32, u33, u34, u35, u36, u37, u38, u39, u40, u41, u42, u43, u44, u45, u46, u47, u48, u49, u50, u51, u52, u53, u54, u55, u56, u57, u58, u59, u60, u61, u62, u63, u64, u65, u66, he⟩ hg hr
    exact ⟨u0, u1, u2, u3, u4, u5, u6, u7, u8, u9, u10, u11, u12, u13, u16, u17, u18, u19, u20, u21, u22, u23, u24, u25, u26, u27, u28, u29, u30, u31, u32, u33, u34, u35, u36, u37, u38, u39, u40, u41, u42, u43, u44, u45, u46, u47, u48, u49, u50, u51, u52, u53, u54, u55, u56, u57, u58, u59, u60, u61, u62, u63, u64, u65, u66, he⟩
  case assign =>
    intro lb pre y W K hI hK
    simp only [encEm]
    gi_wp2
    exact hK _ _ ((KeepsOthers.refl _).from _) (Bbt.refl _ _ _) hI ⟨_, _, _, _, _, _, _, _, _, _, _, _, _, _, _, _, _, _, _, _, _, _, _, _, _, _, _, _, _, _, _, _, _, _, _, _, _, _, _, _, _, _, _, _, _, _, _, _, _, _, _, _, _, _, _, _, _, _, _, _, _, _, _, _, _, rfl⟩
  case body =>
    rintro lb pre y a' W hlb _ ⟨⟨A, c, hq, hown⟩, hB⟩ ⟨u0, u1, u2, u3, u4, u5, u6, u7, u8, u9, u10, u11, u12, u13, u16, u17, u18, u19, u20, u21, u22, u23, u24, u25, u26, u27, u28, u29, u30, u31, u32, u33, u34, u35, u36, u37, u38, u39, u40, u41, u42, u43, u44, u45, u46, u47, u48, u49, u50, u51, u52, u53, u54, u55, u56, u57, u58, u59, u60, u61, u62, u63, u64, u65, u66, rfl⟩ hN
    have cq := hq.cell
    have hpl : pre.length + 1 ≤ 100 := by omega
    gi_wp2_with (gi_at_builtin; refine append_numIn (W := W) W0.heap.size rfl rfl (.tmp 62) (.tmp 64) 23 3 rfl Tryz.underlying23 infoInt' (.slice A pre.length c) (pre.map fun (k : Nat) => (k : Int)) (y : Int) rfl rfl hown hB.size (by rw [List.length_map]; omega) ?_; intro v1 w1 hown1 hg1; obtain ⟨A2, c2, rfl⟩ := own_slice hown1; have hq1 := hq.kept hg1 (fun e => by have := own_base hown _ e.symm; omega); have cq1 := hq1.cell; have fq1 := hq1.frozen)
    have hbase : W0.heap.size ≤ W.heap.size := hB.size
    refine ⟨((KeepsOthers.of_grownBy hg1 fun j o e ho => ?_).trans (KeepsOthers.setCell _ _ _)).from _, (Bbt.of_below ((Below.refl _ W).grown hg1 hbase (own_base hown))).trans (Bbt.setCell _ _ _ _), ?_⟩
    · rcases hown.2 with ⟨e2, _⟩ | ⟨g, cap, cur, e2, _, hh, _⟩
      · rw [e2] at e; simp [Value.ownBlock] at e
      · rw [e2] at e
        have e3 : g = j := by simpa [Value.ownBlock] using e
        subst e3
        rw [hh] at ho
        cases ho
        rfl
    · refine ⟨⟨A2, c2, ?_, ?_⟩, hB.trans ((Bbt.of_below ((Below.refl _ W).grown hg1 hbase (own_base hown))).trans (Bbt.setCell _ _ _ _))⟩
      · have h3 := hq1.set (.slice A2 (pre.length + 1) c2)
        simpa using h3
      · have h3 := hown1.kept (grownBy_setCell' w1 w3.heap.size (.slice A2 (pre.length + 1) c2)) (.inr fun e => by have := own_base hown1 _ e; omega)
        simpa using h3
  case stop =>
    rintro D c pre W _ _ h _
    exact h.elim
  case done =>
    rintro D xs W hD hxs ⟨⟨A, c, hq, hown⟩, hB⟩ hK
    subst hxs
    have cq := hq.cell
    go_wp2
    refine leaves_marks [D] W (by simp) (by simpa using hK) (fun W' hW' => ⟨_, results_tmp2 rfl _ _ _, _, rfl, ?_, ?_⟩)
    · rw [HNe.out]
      refine sl_byt (own_sl hown ?_) hW' (by simpa using hK)
      have := range_len l.length fun j => cntB (emD l k) k node j (emD l j)
      rw [List.length_map]
      unfold othL othTo big
      omega
    have hs3 := hbw3.size
    exact ((hbw3.trans (hB0.mono hs3)).trans (hB.below (by omega) (by omega))).trans (hW'.below (by simp; omega))
end Go.Proofs.YtpbhoeaadnemhaaGreat
