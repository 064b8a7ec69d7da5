/- The law function: checks. -/
import Derived.Test.YtpbhoeaadnemhaaMI
import Derived.Test.YtpbhoeaadnemhaaMJ
import Derived.Test.YtpbhoeaadnemhaaMF
namespace Go.Proofs.Ytpbhoeaadnemhaa
open Go.RowKit Go.Shelf
set_option linter.unusedVariables false
set_option linter.unusedSimpArgs false
set_option maxHeartbeats 4000000
set_option maxRecDepth 100000
theorem few_len {s : Site} {x : Spm} {l : List Em} (h : fewS s x l = true) : l.length ≤ 50 := by
  simp only [fewS, Bool.and_eq_true, decide_eq_true_eq] at h
  exact h.2
/-- A copy of a list of emissions. -/
theorem cloneS (xs : List Em) (v : Value) (w : World) (h : SlV 4 KEm w v xs) (hlen : xs.length ≤ 60) : Calls Try.prog 12 #[v] w fun e w' => ∃ u, e = .returned u ∧ SlV 4 KEm w' u xs ∧ Below w.heap.size w w' := by
  refine (cloneEm xs v w w (Below.refl _ _) h (by omega)).mono ?_
  rintro e w' ⟨u, cs, rfl, hown, hf, hb⟩
  exact ⟨u, rfl, own_sl2 KEm.pl hown (hf.mono KEm.st hb) (by unfold big; omega), hb⟩
theorem lChecks (s : Site) (x : Spm) (l : List Em) (v : Value) (a b : Em) (w : World) (h : ScnV w v s x l) :
    Calls Try.prog 3 #[v, .agg #[.int .i64 (a).node, .int .i64 (a).ch, .int .i64 (a).frm, .int .i64 (a).to], .agg #[.int .i64 (b).node, .int .i64 (b).ch, .int .i64 (b).frm, .int .i64 (b).to]] w fun e w' => e = .returned (.bool true) ∧ Below w.heap.size w w' := by
  have hu := Try.underlying26
  have hu2 := Try.underlying30
  have hu3 := Try.underlying35
  have hu4 := Try.underlying33
  obtain ⟨A0, c0, A1, c1, A2, c2, A3, c3, A4, c4, A5, c5, rfl, hs, hx, hl⟩ := h
  have hs' := Lib.hid hs
  have hx' := Lib.hid hx
  have hl' := Lib.hid hl
  obtain ⟨_, _, e5, hc5, hm5, hr5⟩ := hl
  cases e5
  unfold big at hm5
  clear hs hx
  obtain ⟨W1, hW1⟩ : ∃ W : World, W = (((w.alloc (.cells #[.slice A0 s.nodes.length c0, .slice A1 s.powers.length c1, .slice A2 s.walls.length c2, .int .i64 s.ex, .int .i64 s.noise, .int .i64 s.thr, .slice A3 x.srcs.length c3, .slice A4 x.fds.length c4, .slice A5 l.length c5] 33)).alloc (.cells #[.int .i64 a.node, .int .i64 a.ch, .int .i64 a.frm, .int .i64 a.to] 35)).alloc (.cells #[.int .i64 b.node, .int .i64 b.ch, .int .i64 b.frm, .int .i64 b.to] 35)) := ⟨_, rfl⟩
  have hb1 : Below w.heap.size w W1 := by rw [hW1]; (repeat (first | exact Below.refl _ _ | assumption | apply b_alloc | apply b_drewN | apply b_drew))
  have q : ∀ wr : World, Below W1.heap.size W1 wr → wr.cell? ⟨w.heap.size, 0, none⟩ = some (.slice A0 s.nodes.length c0) ∧ wr.cell? ⟨w.heap.size, 1, none⟩ = some (.slice A1 s.powers.length c1) ∧ wr.cell? ⟨w.heap.size, 2, none⟩ = some (.slice A2 s.walls.length c2) ∧ wr.cell? ⟨w.heap.size, 3, none⟩ = some (.int .i64 s.ex) ∧ wr.cell? ⟨w.heap.size, 4, none⟩ = some (.int .i64 s.noise) ∧ wr.cell? ⟨w.heap.size, 5, none⟩ = some (.int .i64 s.thr) ∧ wr.cell? ⟨w.heap.size, 6, none⟩ = some (.slice A3 x.srcs.length c3) ∧ wr.cell? ⟨w.heap.size, 7, none⟩ = some (.slice A4 x.fds.length c4) ∧ wr.cell? ⟨w.heap.size, 8, none⟩ = some (.slice A5 l.length c5) ∧ wr.cell? ⟨w.heap.size + 1, 0, none⟩ = some (.int .i64 a.node) ∧ wr.cell? ⟨w.heap.size + 1, 1, none⟩ = some (.int .i64 a.ch) ∧ wr.cell? ⟨w.heap.size + 1, 2, none⟩ = some (.int .i64 a.frm) ∧ wr.cell? ⟨w.heap.size + 1, 3, none⟩ = some (.int .i64 a.to) ∧ wr.cell? ⟨w.heap.size + 1 + 1, 0, none⟩ = some (.int .i64 b.node) ∧ wr.cell? ⟨w.heap.size + 1 + 1, 1, none⟩ = some (.int .i64 b.ch) ∧ wr.cell? ⟨w.heap.size + 1 + 1, 2, none⟩ = some (.int .i64 b.frm) ∧ wr.cell? ⟨w.heap.size + 1 + 1, 3, none⟩ = some (.int .i64 b.to) := fun wr hwr => ⟨cell_mono hwr (by rw [hW1]; go_simp), cell_mono hwr (by rw [hW1]; go_simp), cell_mono hwr (by rw [hW1]; go_simp), cell_mono hwr (by rw [hW1]; go_simp), cell_mono hwr (by rw [hW1]; go_simp), cell_mono hwr (by rw [hW1]; go_simp), cell_mono hwr (by rw [hW1]; go_simp), cell_mono hwr (by rw [hW1]; go_simp), cell_mono hwr (by rw [hW1]; go_simp), cell_mono hwr (by rw [hW1]; go_simp), cell_mono hwr (by rw [hW1]; go_simp), cell_mono hwr (by rw [hW1]; go_simp), cell_mono hwr (by rw [hW1]; go_simp), cell_mono hwr (by rw [hW1]; go_simp), cell_mono hwr (by rw [hW1]; go_simp), cell_mono hwr (by rw [hW1]; go_simp), cell_mono hwr (by rw [hW1]; go_simp)⟩
  have HW := Lib.hid hW1
  clear hW1
  go_enter Try.func3, Try.ntmps3
  go_wp2_with fail
  rw [← HW.out]
  refine (awake _).mono ?_
  rintro e w2 ⟨rfl, hb2⟩
  have hbz2 := b_then hb1 hb2
  obtain ⟨l20, l21, l22, l23, l24, l25, l26, l27, l28, l29, l210, l211, l212, l213, l214, l215, l216⟩ := q _ hb2
  go_wp2_with fail
  refine (lFew s x l _ (hs'.out.mono hbz2) (hx'.out.mono hbz2) (hl'.out.mono KEm.st hbz2)).mono ?_
  rintro e w3 ⟨rfl, hb3⟩
  have hbA3 := b_then hb2 hb3
  have hbz3 := b_then hb1 hbA3
  try clear l20 l21 l22 l23 l24 l25 l26 l27 l28 l29 l210 l211 l212 l213 l214 l215 l216
  obtain ⟨l30, l31, l32, l33, l34, l35, l36, l37, l38, l39, l310, l311, l312, l313, l314, l315, l316⟩ := q _ hbA3
  rcases Bool.eq_false_or_eq_true (fewS s x l) with q1 | q1
  rotate_left
  · rw [q1]
    go_wp2
    go_ret
    exact ⟨rfl, hbz3⟩
  rw [q1]
  have hlen : l.length ≤ 50 := few_len q1
  clear q1
  have ks : ∀ w', Below w3.heap.size w3 w' → (Below w3.heap.size w3 w' ∧ (w'.cell? ⟨w.heap.size, 0, none⟩ = some (.slice A0 s.nodes.length c0) ∧ w'.cell? ⟨w.heap.size, 1, none⟩ = some (.slice A1 s.powers.length c1) ∧ w'.cell? ⟨w.heap.size, 2, none⟩ = some (.slice A2 s.walls.length c2) ∧ w'.cell? ⟨w.heap.size, 3, none⟩ = some (.int .i64 s.ex) ∧ w'.cell? ⟨w.heap.size, 4, none⟩ = some (.int .i64 s.noise) ∧ w'.cell? ⟨w.heap.size, 5, none⟩ = some (.int .i64 s.thr) ∧ w'.cell? ⟨w.heap.size, 6, none⟩ = some (.slice A3 x.srcs.length c3) ∧ w'.cell? ⟨w.heap.size, 7, none⟩ = some (.slice A4 x.fds.length c4) ∧ w'.cell? ⟨w.heap.size, 8, none⟩ = some (.slice A5 l.length c5) ∧ w'.cell? ⟨w.heap.size + 1, 0, none⟩ = some (.int .i64 a.node) ∧ w'.cell? ⟨w.heap.size + 1, 1, none⟩ = some (.int .i64 a.ch) ∧ w'.cell? ⟨w.heap.size + 1, 2, none⟩ = some (.int .i64 a.frm) ∧ w'.cell? ⟨w.heap.size + 1, 3, none⟩ = some (.int .i64 a.to) ∧ w'.cell? ⟨w.heap.size + 1 + 1, 0, none⟩ = some (.int .i64 b.node) ∧ w'.cell? ⟨w.heap.size + 1 + 1, 1, none⟩ = some (.int .i64 b.ch) ∧ w'.cell? ⟨w.heap.size + 1 + 1, 2, none⟩ = some (.int .i64 b.frm) ∧ w'.cell? ⟨w.heap.size + 1 + 1, 3, none⟩ = some (.int .i64 b.to))) := fun w' h => ⟨h, q _ (b_then hbA3 h)⟩
  have KS := Lib.hid ks
  clear ks
  have hsL : ∀ w', Below w3.heap.size w3 w' → SiteV w' (.agg #[.slice A0 s.nodes.length c0, .slice A1 s.powers.length c1, .slice A2 s.walls.length c2, .int .i64 s.ex, .int .i64 s.noise, .int .i64 s.thr]) s := fun w' h => hs'.out.mono (b_then hbz3 h)
  have hxL : ∀ w', Below w3.heap.size w3 w' → SpmV w' (.agg #[.slice A3 x.srcs.length c3, .slice A4 x.fds.length c4]) x := fun w' h => hx'.out.mono (b_then hbz3 h)
  have hlL : ∀ w', Below w3.heap.size w3 w' → SlV 4 KEm w' (.slice A5 l.length c5) l := fun w' h => hl'.out.mono KEm.st (b_then hbz3 h)
  have HS := Lib.hid hsL
  have HX := Lib.hid hxL
  have HL := Lib.hid hlL
  clear hsL hxL hlL
  have hbr : Below w3.heap.size w3 w3 := Below.refl _ _
  have g0 : (airE s x l == airE s x l) = true := by simp
  go_wp2_with fail
  go_region_held3 (fun w' => Below w3.heap.size w3 w' ∧ (w'.cell? ⟨w.heap.size, 0, none⟩ = some (.slice A0 s.nodes.length c0) ∧ w'.cell? ⟨w.heap.size, 1, none⟩ = some (.slice A1 s.powers.length c1) ∧ w'.cell? ⟨w.heap.size, 2, none⟩ = some (.slice A2 s.walls.length c2) ∧ w'.cell? ⟨w.heap.size, 3, none⟩ = some (.int .i64 s.ex) ∧ w'.cell? ⟨w.heap.size, 4, none⟩ = some (.int .i64 s.noise) ∧ w'.cell? ⟨w.heap.size, 5, none⟩ = some (.int .i64 s.thr) ∧ w'.cell? ⟨w.heap.size, 6, none⟩ = some (.slice A3 x.srcs.length c3) ∧ w'.cell? ⟨w.heap.size, 7, none⟩ = some (.slice A4 x.fds.length c4) ∧ w'.cell? ⟨w.heap.size, 8, none⟩ = some (.slice A5 l.length c5) ∧ w'.cell? ⟨w.heap.size + 1, 0, none⟩ = some (.int .i64 a.node) ∧ w'.cell? ⟨w.heap.size + 1, 1, none⟩ = some (.int .i64 a.ch) ∧ w'.cell? ⟨w.heap.size + 1, 2, none⟩ = some (.int .i64 a.frm) ∧ w'.cell? ⟨w.heap.size + 1, 3, none⟩ = some (.int .i64 a.to) ∧ w'.cell? ⟨w.heap.size + 1 + 1, 0, none⟩ = some (.int .i64 b.node) ∧ w'.cell? ⟨w.heap.size + 1 + 1, 1, none⟩ = some (.int .i64 b.ch) ∧ w'.cell? ⟨w.heap.size + 1 + 1, 2, none⟩ = some (.int .i64 b.frm) ∧ w'.cell? ⟨w.heap.size + 1 + 1, 3, none⟩ = some (.int .i64 b.to)))
    ((refine KS.out _ ?_; first | with_reducible exact b_drew (Below.refl _ _) | with_reducible exact b_then (And.left (by assumption)) hbq))
    (first
      | (go_at_call 12; refine (cloneS l _ _ (HL.out _ (And.left (by assumption))) (by omega)).mono ?_; rintro e w7 ⟨u, rfl, hcl, hbq⟩; obtain ⟨AC, cC, rfl, _⟩ := id hcl)
      | (go_at_call 11; refine (aCheck s x l _ _ _ _ (HS.out _ (And.left (by assumption))) (HX.out _ (And.left (by assumption))) hcl).mono ?_; rintro e w8 ⟨rfl, hbq⟩)
      | (go_at_call 13; refine (r07Check s x l _ _ _ _ (HS.out _ (And.left (by assumption))) (HX.out _ (And.left (by assumption))) (HL.out _ (And.left (by assumption)))).mono ?_; rintro e w9 ⟨rfl, hbq⟩)
      | (go_at_call 14; refine (aOverlap a b _).mono ?_; rintro e wa ⟨rfl, hbq⟩)
      | (go_at_call 15; refine (r07Overlap a b _).mono ?_; rintro e wb ⟨rfl, hbq⟩)
      | fail)
  go_wp2
  go_ret
  exact ⟨rfl, b_then hbz3 (And.left (by assumption))⟩
end Go.Proofs.Ytpbhoeaadnemhaa
