/- The law function: hears. -/
import Derived.Test.YtpbhoeaadnemhaaGreatAirJ
import Derived.Test.YtpbhoeaadnemhaaGreatAirU
import Derived.Test.YtpbhoeaadnemhaaGreatAirW
namespace Go.Proofs.YtpbhoeaadnemhaaGreat
open Go.RowKit Go.Shelf
set_option linter.unusedVariables false
set_option linter.unusedSimpArgs false
set_option maxHeartbeats 4000000
set_option maxRecDepth 100000
theorem lHears (s : Site) (x : Spm) (l : List Em) (v : Value) (y : Lis) (i : Int) (w : World) (h : ScnV w v s x l) :
    Calls Tryz.prog 3 #[v, .agg #[.int .i64 (y).node, .int .i64 (y).ch, .int .i64 (y).frm, .int .i64 (y).to], .int .i64 i] w fun e w' => e = .returned (.bool true) ∧ Below w.heap.size w w' := by
  have hu := Tryz.underlying26
  have hu2 := Tryz.underlying30
  have hu3 := Tryz.underlying42
  have hu4 := Tryz.underlying33
  have hu5 := Tryz.underlying35
  obtain ⟨A0, c0, A1, c1, A2, c2, A3, c3, A4, c4, A5, c5, rfl, hs, hx, hl⟩ := h
  have hs' := Lib.hid hs
  have hx' := Lib.hid hx
  have hl' := Lib.hid hl
  obtain ⟨_, _, e5, hc5, hm5, hr5⟩ := hl
  cases e5
  unfold big at hm5
  clear hs hx
  obtain ⟨W1, hW1⟩ : ∃ W : World, W = ((w.alloc (.cells #[.slice A0 s.nodes.length c0, .slice A1 s.powers.length c1, .slice A2 s.walls.length c2, .int .i64 s.ex, .int .i64 s.noise, .int .i64 s.thr, .slice A3 x.srcs.length c3, .slice A4 x.fds.length c4, .slice A5 l.length c5] 33)).alloc (.cells #[.int .i64 y.node, .int .i64 y.ch, .int .i64 y.frm, .int .i64 y.to] 35)) := ⟨_, rfl⟩; have hb1 : Below w.heap.size w W1 := (by rw [hW1]; (repeat (first | exact Below.refl _ _ | assumption | apply b_alloc | apply b_drewN | apply b_drew))); have q : ∀ wq : World, Below W1.heap.size W1 wq → wq.cell? ⟨w.heap.size, 0, none⟩ = some (.slice A0 s.nodes.length c0) ∧ wq.cell? ⟨w.heap.size, 1, none⟩ = some (.slice A1 s.powers.length c1) ∧ wq.cell? ⟨w.heap.size, 2, none⟩ = some (.slice A2 s.walls.length c2) ∧ wq.cell? ⟨w.heap.size, 3, none⟩ = some (.int .i64 s.ex) ∧ wq.cell? ⟨w.heap.size, 4, none⟩ = some (.int .i64 s.noise) ∧ wq.cell? ⟨w.heap.size, 5, none⟩ = some (.int .i64 s.thr) ∧ wq.cell? ⟨w.heap.size, 6, none⟩ = some (.slice A3 x.srcs.length c3) ∧ wq.cell? ⟨w.heap.size, 7, none⟩ = some (.slice A4 x.fds.length c4) ∧ wq.cell? ⟨w.heap.size, 8, none⟩ = some (.slice A5 l.length c5) ∧ wq.cell? ⟨w.heap.size + 1, 0, none⟩ = some (.int .i64 y.node) ∧ wq.cell? ⟨w.heap.size + 1, 1, none⟩ = some (.int .i64 y.ch) ∧ wq.cell? ⟨w.heap.size + 1, 2, none⟩ = some (.int .i64 y.frm) ∧ wq.cell? ⟨w.heap.size + 1, 3, none⟩ = some (.int .i64 y.to) := (fun wq hwr => ⟨cell_mono hwr (by rw [hW1]; go_simp), cell_mono hwr (by rw [hW1]; go_simp), cell_mono hwr (by rw [hW1]; go_simp), cell_mono hwr (by rw [hW1]; go_simp), cell_mono hwr (by rw [hW1]; go_simp), cell_mono hwr (by rw [hW1]; go_simp), cell_mono hwr (by rw [hW1]; go_simp), cell_mono hwr (by rw [hW1]; go_simp), cell_mono hwr (by rw [hW1]; go_simp), cell_mono hwr (by rw [hW1]; go_simp), cell_mono hwr (by rw [hW1]; go_simp), cell_mono hwr (by rw [hW1]; go_simp), cell_mono hwr (by rw [hW1]; go_simp)⟩); have HW := Lib.hid hW1; clear hW1
  go_enter Tryz.func3, Tryz.ntmps3
  go_wp2_with fail
  rw [← HW.out]
  refine (awake _).mono ?_
  rintro e w2 ⟨rfl, hb2⟩
  have hbz2 := b_then hb1 hb2
  obtain ⟨l20, l21, l22, l23, l24, l25, l26, l27, l28, l29, l210, l211, l212⟩ := q _ hb2
  go_wp2_with fail
  refine (lFew s x l _ (hs'.out.mono hbz2) (hx'.out.mono hbz2) (hl'.out.mono KEm.st hbz2)).mono ?_
  rintro e w3 ⟨rfl, hb3⟩
  have hbA3 := b_then hb2 hb3
  have hbz3 := b_then hb1 hbA3
  try clear l20 l21 l22 l23 l24 l25 l26 l27 l28 l29 l210 l211 l212
  obtain ⟨l30, l31, l32, l33, l34, l35, l36, l37, l38, l39, l310, l311, l312⟩ := q _ hbA3
  rcases Bool.eq_false_or_eq_true (fewS s x l) with q1 | q1
  rotate_left
  · rw [q1]
    go_wp2
    go_ret
    exact ⟨rfl, hbz3⟩
  rw [q1]
  have hlen : l.length ≤ 50 := few_len q1
  clear q1
  have hbB3 := hbA3
  try clear l30 l31 l32 l33 l34 l35 l36 l37 l38 l39 l310 l311 l312
  obtain ⟨I, hI⟩ : ∃ I, hearN s x l y = I := ⟨_, rfl⟩
  obtain ⟨C, hC⟩ : ∃ C, heardB s x l y = C := ⟨_, rfl⟩
  obtain ⟨E, hE⟩ : ∃ E, hearE s x l y = E := ⟨_, rfl⟩
  obtain ⟨E2, hE2⟩ : ∃ E2, chkE s x l i y.node = E2 := ⟨_, rfl⟩
  have cI : ∀ {v xv lv : Value} {w' : World}, SiteV w' v s → SpmV w' xv x → SlV 4 KEm w' lv l → Calls Tryz.prog 7 #[v, xv, lv, .agg #[.int .i64 (y).node, .int .i64 (y).ch, .int .i64 (y).frm, .int .i64 (y).to]] w' fun e w'' => e = .returned (.tuple #[.int .i64 I, .bool C, .int .i64 E]) ∧ Below w'.heap.size w' w'' := fun {v xv lv w'} h1 h2 h3 => hI ▸ hC ▸ hE ▸ aHear s x l y v xv lv w' h1 h2 h3
  have rI : ∀ {v xv lv : Value} {w' : World}, SiteV w' v s → SpmV w' xv x → SlV 4 KEm w' lv l → Calls Tryz.prog 9 #[v, xv, lv, .agg #[.int .i64 (y).node, .int .i64 (y).ch, .int .i64 (y).frm, .int .i64 (y).to]] w' fun e w'' => e = .returned (.tuple #[.int .i64 I, .bool C, .int .i64 E]) ∧ Below w'.heap.size w' w'' := fun {v xv lv w'} h1 h2 h3 => hI ▸ hC ▸ hE ▸ r07Hear s x l y v xv lv w' h1 h2 h3
  have cS : ∀ {v xv lv : Value} {w' : World}, SiteV w' v s → SpmV w' xv x → SlV 4 KEm w' lv l → Calls Tryz.prog 10 #[v, xv, lv, .int .i64 i, .int .i64 y.node] w' fun e w'' => ∃ A c, e = .returned (.tuple #[.slice A (disN s x l i y.node).length c, .int .i64 E2]) ∧ SlV 1 KI w'' (.slice A (disN s x l i y.node).length c) (disN s x l i y.node) ∧ Below w'.heap.size w' w'' := fun {v xv lv w'} h1 h2 h3 => by
    refine (aDisturbers s x l i y.node v xv lv w' h1 h2 h3).mono ?_
    rintro e w'' ⟨u, rfl, hs, hb⟩
    have hs' := hs
    obtain ⟨A, c, rfl, _⟩ := hs
    exact ⟨A, c, by rw [hE2], hs', hb⟩
  have rS : ∀ {v xv lv : Value} {w' : World}, SiteV w' v s → SpmV w' xv x → SlV 4 KEm w' lv l → Calls Tryz.prog 11 #[v, xv, lv, .int .i64 i, .int .i64 y.node] w' fun e w'' => ∃ A c, e = .returned (.tuple #[.slice A (disN s x l i y.node).length c, .int .i64 E2]) ∧ SlV 1 KI w'' (.slice A (disN s x l i y.node).length c) (disN s x l i y.node) ∧ Below w'.heap.size w' w'' := fun {v xv lv w'} h1 h2 h3 => by
    refine (r07Disturbers s x l i y.node v xv lv w' h1 h2 h3).mono ?_
    rintro e w'' ⟨u, rfl, hs, hb⟩
    have hs' := hs
    obtain ⟨A, c, rfl, _⟩ := hs
    exact ⟨A, c, by rw [hE2], hs', hb⟩
  generalize disN s x l i y.node = L at cS rS
  clear hI hE hC hE2
  have g1 : (I == I) = true := by simp
  have g2 : (E == E) = true := by simp
  have g3 : (C == C) = true := by simp
  have g4 : (E2 == E2) = true := by simp
  have ks : ∀ w', Below w3.heap.size w3 w' → (Below w3.heap.size w3 w' ∧ (w'.cell? ⟨w.heap.size, 0, none⟩ = some (.slice A0 s.nodes.length c0) ∧ w'.cell? ⟨w.heap.size, 1, none⟩ = some (.slice A1 s.powers.length c1) ∧ w'.cell? ⟨w.heap.size, 2, none⟩ = some (.slice A2 s.walls.length c2) ∧ w'.cell? ⟨w.heap.size, 3, none⟩ = some (.int .i64 s.ex) ∧ w'.cell? ⟨w.heap.size, 4, none⟩ = some (.int .i64 s.noise) ∧ w'.cell? ⟨w.heap.size, 5, none⟩ = some (.int .i64 s.thr) ∧ w'.cell? ⟨w.heap.size, 6, none⟩ = some (.slice A3 x.srcs.length c3) ∧ w'.cell? ⟨w.heap.size, 7, none⟩ = some (.slice A4 x.fds.length c4) ∧ w'.cell? ⟨w.heap.size, 8, none⟩ = some (.slice A5 l.length c5) ∧ w'.cell? ⟨w.heap.size + 1, 0, none⟩ = some (.int .i64 y.node) ∧ w'.cell? ⟨w.heap.size + 1, 1, none⟩ = some (.int .i64 y.ch) ∧ w'.cell? ⟨w.heap.size + 1, 2, none⟩ = some (.int .i64 y.frm) ∧ w'.cell? ⟨w.heap.size + 1, 3, none⟩ = some (.int .i64 y.to))) := fun w' h => ⟨h, q _ (b_then hbB3 h)⟩
  have KS := Lib.hid ks
  clear ks
  have hsL : ∀ w', Below w3.heap.size w3 w' → SiteV w' (.agg #[.slice A0 s.nodes.length c0, .slice A1 s.powers.length c1, .slice A2 s.walls.length c2, .int .i64 s.ex, .int .i64 s.noise, .int .i64 s.thr]) s := fun w' h => hs'.out.mono (b_then (b_then hb1 hbB3) h)
  have hxL : ∀ w', Below w3.heap.size w3 w' → SpmV w' (.agg #[.slice A3 x.srcs.length c3, .slice A4 x.fds.length c4]) x := fun w' h => hx'.out.mono (b_then (b_then hb1 hbB3) h)
  have hlL : ∀ w', Below w3.heap.size w3 w' → SlV 4 KEm w' (.slice A5 l.length c5) l := fun w' h => hl'.out.mono KEm.st (b_then (b_then hb1 hbB3) h)
  have HS := Lib.hid hsL
  have HX := Lib.hid hxL
  have HL := Lib.hid hlL
  clear hsL hxL hlL
  obtain ⟨l30, l31, l32, l33, l34, l35, l36, l37, l38, l39, l310, l311, l312⟩ := q _ hbB3
  go_wp2_with fail
  go_region_held3 (fun w' => Below w3.heap.size w3 w' ∧ (w'.cell? ⟨w.heap.size, 0, none⟩ = some (.slice A0 s.nodes.length c0) ∧ w'.cell? ⟨w.heap.size, 1, none⟩ = some (.slice A1 s.powers.length c1) ∧ w'.cell? ⟨w.heap.size, 2, none⟩ = some (.slice A2 s.walls.length c2) ∧ w'.cell? ⟨w.heap.size, 3, none⟩ = some (.int .i64 s.ex) ∧ w'.cell? ⟨w.heap.size, 4, none⟩ = some (.int .i64 s.noise) ∧ w'.cell? ⟨w.heap.size, 5, none⟩ = some (.int .i64 s.thr) ∧ w'.cell? ⟨w.heap.size, 6, none⟩ = some (.slice A3 x.srcs.length c3) ∧ w'.cell? ⟨w.heap.size, 7, none⟩ = some (.slice A4 x.fds.length c4) ∧ w'.cell? ⟨w.heap.size, 8, none⟩ = some (.slice A5 l.length c5) ∧ w'.cell? ⟨w.heap.size + 1, 0, none⟩ = some (.int .i64 y.node) ∧ w'.cell? ⟨w.heap.size + 1, 1, none⟩ = some (.int .i64 y.ch) ∧ w'.cell? ⟨w.heap.size + 1, 2, none⟩ = some (.int .i64 y.frm) ∧ w'.cell? ⟨w.heap.size + 1, 3, none⟩ = some (.int .i64 y.to)))
    ((refine KS.out _ ?_; first | with_reducible exact b_drew (Below.refl _ _) | with_reducible exact b_then (And.left (by assumption)) hbq))
    (first
      | (go_at_call 8; refine (cloneS l _ _ (HL.out _ (And.left (by assumption))) (by omega)).mono ?_; rintro e7 wa ⟨u, rfl, hcl, hbq⟩; obtain ⟨AC, cC, rfl, _⟩ := id hcl)
      | (go_at_call 7; refine (cI (HS.out _ (And.left (by assumption))) (HX.out _ (And.left (by assumption))) hcl).mono ?_; rintro e4 w4 ⟨rfl, hbq⟩)
      | fail)
  have hbA4 : Below w3.heap.size w3 w4 := And.left (by assumption)
  have hbB4 := b_then hbB3 hbA4
  try clear l30 l31 l32 l33 l34 l35 l36 l37 l38 l39 l310 l311 l312
  clear KS HS HX HL
  obtain ⟨l40, l41, l42, l43, l44, l45, l46, l47, l48, l49, l410, l411, l412⟩ := q _ hbB4
  go_wp2_with fail
  refine (rI (hs'.out.mono (b_then hb1 hbB4)) (hx'.out.mono (b_then hb1 hbB4)) (hl'.out.mono KEm.st (b_then hb1 hbB4))).mono ?_
  rintro e5 w5 ⟨rfl, hb5⟩
  have hbB5 := b_then hbB4 hb5
  try clear l40 l41 l42 l43 l44 l45 l46 l47 l48 l49 l410 l411 l412
  have ks : ∀ w', Below w5.heap.size w5 w' → (Below w5.heap.size w5 w' ∧ (w'.cell? ⟨w.heap.size, 0, none⟩ = some (.slice A0 s.nodes.length c0) ∧ w'.cell? ⟨w.heap.size, 1, none⟩ = some (.slice A1 s.powers.length c1) ∧ w'.cell? ⟨w.heap.size, 2, none⟩ = some (.slice A2 s.walls.length c2) ∧ w'.cell? ⟨w.heap.size, 3, none⟩ = some (.int .i64 s.ex) ∧ w'.cell? ⟨w.heap.size, 4, none⟩ = some (.int .i64 s.noise) ∧ w'.cell? ⟨w.heap.size, 5, none⟩ = some (.int .i64 s.thr) ∧ w'.cell? ⟨w.heap.size, 6, none⟩ = some (.slice A3 x.srcs.length c3) ∧ w'.cell? ⟨w.heap.size, 7, none⟩ = some (.slice A4 x.fds.length c4) ∧ w'.cell? ⟨w.heap.size, 8, none⟩ = some (.slice A5 l.length c5) ∧ w'.cell? ⟨w.heap.size + 1, 0, none⟩ = some (.int .i64 y.node) ∧ w'.cell? ⟨w.heap.size + 1, 1, none⟩ = some (.int .i64 y.ch) ∧ w'.cell? ⟨w.heap.size + 1, 2, none⟩ = some (.int .i64 y.frm) ∧ w'.cell? ⟨w.heap.size + 1, 3, none⟩ = some (.int .i64 y.to))) := fun w' h => ⟨h, q _ (b_then hbB5 h)⟩
  have KS := Lib.hid ks
  clear ks
  have hsL : ∀ w', Below w5.heap.size w5 w' → SiteV w' (.agg #[.slice A0 s.nodes.length c0, .slice A1 s.powers.length c1, .slice A2 s.walls.length c2, .int .i64 s.ex, .int .i64 s.noise, .int .i64 s.thr]) s := fun w' h => hs'.out.mono (b_then (b_then hb1 hbB5) h)
  have hxL : ∀ w', Below w5.heap.size w5 w' → SpmV w' (.agg #[.slice A3 x.srcs.length c3, .slice A4 x.fds.length c4]) x := fun w' h => hx'.out.mono (b_then (b_then hb1 hbB5) h)
  have hlL : ∀ w', Below w5.heap.size w5 w' → SlV 4 KEm w' (.slice A5 l.length c5) l := fun w' h => hl'.out.mono KEm.st (b_then (b_then hb1 hbB5) h)
  have HS := Lib.hid hsL
  have HX := Lib.hid hxL
  have HL := Lib.hid hlL
  clear hsL hxL hlL
  obtain ⟨l50, l51, l52, l53, l54, l55, l56, l57, l58, l59, l510, l511, l512⟩ := q _ hbB5
  go_wp2_with fail
  go_region_held3 (fun w' => Below w5.heap.size w5 w' ∧ (w'.cell? ⟨w.heap.size, 0, none⟩ = some (.slice A0 s.nodes.length c0) ∧ w'.cell? ⟨w.heap.size, 1, none⟩ = some (.slice A1 s.powers.length c1) ∧ w'.cell? ⟨w.heap.size, 2, none⟩ = some (.slice A2 s.walls.length c2) ∧ w'.cell? ⟨w.heap.size, 3, none⟩ = some (.int .i64 s.ex) ∧ w'.cell? ⟨w.heap.size, 4, none⟩ = some (.int .i64 s.noise) ∧ w'.cell? ⟨w.heap.size, 5, none⟩ = some (.int .i64 s.thr) ∧ w'.cell? ⟨w.heap.size, 6, none⟩ = some (.slice A3 x.srcs.length c3) ∧ w'.cell? ⟨w.heap.size, 7, none⟩ = some (.slice A4 x.fds.length c4) ∧ w'.cell? ⟨w.heap.size, 8, none⟩ = some (.slice A5 l.length c5) ∧ w'.cell? ⟨w.heap.size + 1, 0, none⟩ = some (.int .i64 y.node) ∧ w'.cell? ⟨w.heap.size + 1, 1, none⟩ = some (.int .i64 y.ch) ∧ w'.cell? ⟨w.heap.size + 1, 2, none⟩ = some (.int .i64 y.frm) ∧ w'.cell? ⟨w.heap.size + 1, 3, none⟩ = some (.int .i64 y.to)))
    ((refine KS.out _ ?_; first | with_reducible exact b_drew (Below.refl _ _) | with_reducible exact b_then (And.left (by assumption)) hbq))
    (first
      | (go_at_call 8; refine (cloneS l _ _ (HL.out _ (And.left (by assumption))) (by omega)).mono ?_; rintro e7 wc ⟨u, rfl, hcl, hbq⟩; obtain ⟨AC, cC, rfl, _⟩ := id hcl)
      | (go_at_call 10; refine (cS (HS.out _ (And.left (by assumption))) (HX.out _ (And.left (by assumption))) hcl).mono ?_; rintro e8 w8 ⟨A8, c8, rfl, hs8, hbq⟩)
      | fail)
  have hbA8 : Below w5.heap.size w5 w8 := And.left (by assumption)
  have hbB8 := b_then hbB5 hbA8
  try clear l50 l51 l52 l53 l54 l55 l56 l57 l58 l59 l510 l511 l512
  clear KS HS HX HL
  obtain ⟨l80, l81, l82, l83, l84, l85, l86, l87, l88, l89, l810, l811, l812⟩ := q _ hbB8
  go_wp2_with fail
  refine (rS (hs'.out.mono (b_then hb1 hbB8)) (hx'.out.mono (b_then hb1 hbB8)) (hl'.out.mono KEm.st (b_then hb1 hbB8))).mono ?_
  rintro e9 w9 ⟨A9, c9, rfl, hs9, hb9⟩
  have hbB9 := b_then hbB8 hb9
  try clear l80 l81 l82 l83 l84 l85 l86 l87 l88 l89 l810 l811 l812
  have hq := xEqual L L _ _ _ (hs8.mono KI.st hb9) hs9
  rw [show decide (L = L) = true by simp] at hq
  have HQ := Lib.hid hq
  clear hq hs8 hs9
  go_wp2_with fail
  refine HQ.out.mono ?_
  rintro e10 w10 ⟨rfl, hb10⟩
  go_wp2
  go_ret
  exact ⟨rfl, b_then (b_then hb1 hbB9) hb10⟩
end Go.Proofs.YtpbhoeaadnemhaaGreat
