/- The law functions: signals. -/
import Derived.Test.YtlndgoaobalenaaAwake
import Derived.Test.YtlndgoaobalenaaSpcF
import Derived.Test.YtlndgoaobalenaaSpcG
namespace Go.Proofs.Ytlndgoaobalenaa
open Go.RowKit
set_option linter.unusedVariables false
set_option linter.unusedSimpArgs false
set_option maxHeartbeats 4000000
set_option maxRecDepth 100000
theorem lSignals (s : Site) (x : Spm) (v xv : Value) (qa qb qc f t : Int) (w : World) (hs : SiteV w v s) (hx : SpmV w xv x) :
    Calls Try.prog 7 #[v, xv, .agg #[.int .i64 qa, .int .i64 qb, .int .i64 qc, .int .i64 f, .int .i64 t]] w fun e w' => e = .returned (.bool true) ∧ Below w.heap.size w w' := by
  have hu := Try.underlying45
  have hu2 := Try.underlying25
  have hu3 := Try.underlying32
  have hs' := Lib.hid hs
  obtain ⟨v0, v1, v2, rfl, h0, h1, h2⟩ := hs
  obtain ⟨A0, c0, rfl, hc0, hm0, hr0⟩ := h0
  obtain ⟨A1, c1, rfl, hc1, hm1, hr1⟩ := h1
  obtain ⟨A2, c2, rfl, hc2, hm2, hr2⟩ := h2
  unfold big at hm0 hm1 hm2
  have hx' := Lib.hid hx
  obtain ⟨x0, x1, rfl, h3, h4⟩ := hx
  have H3 := Lib.hid h3
  have H4 := Lib.hid h4
  obtain ⟨A3, c3, rfl, hc3, hm3, hr3⟩ := h3
  obtain ⟨A4, c4, rfl, hc4, hm4, hr4⟩ := h4
  unfold big at hm3 hm4
  obtain ⟨W1, hW1⟩ : ∃ W : World, W = (((w.alloc (.cells #[.slice A0 s.nodes.length c0, .slice A1 s.powers.length c1, .slice A2 s.walls.length c2, .int .i64 s.ex, .int .i64 s.noise, .int .i64 s.thr] 45)).alloc (.cells #[.slice A3 x.srcs.length c3, .slice A4 x.fds.length c4] 25)).alloc (.cells #[.int .i64 qa, .int .i64 qb, .int .i64 qc, .int .i64 f, .int .i64 t] 32)) := ⟨_, rfl⟩
  have hb1 : Below w.heap.size w W1 := by rw [hW1]; (repeat (first | exact Below.refl _ _ | assumption | apply b_alloc | apply b_drewN | apply b_drew))
  have q : ∀ wr : World, Below W1.heap.size W1 wr → wr.cell? ⟨w.heap.size, 0, none⟩ = some (.slice A0 s.nodes.length c0) ∧ wr.cell? ⟨w.heap.size, 1, none⟩ = some (.slice A1 s.powers.length c1) ∧ wr.cell? ⟨w.heap.size, 2, none⟩ = some (.slice A2 s.walls.length c2) ∧ wr.cell? ⟨w.heap.size, 3, none⟩ = some (.int .i64 s.ex) ∧ wr.cell? ⟨w.heap.size, 4, none⟩ = some (.int .i64 s.noise) ∧ wr.cell? ⟨w.heap.size, 5, none⟩ = some (.int .i64 s.thr) ∧ wr.cell? ⟨w.heap.size + 1, 0, none⟩ = some (.slice A3 x.srcs.length c3) ∧ wr.cell? ⟨w.heap.size + 1, 1, none⟩ = some (.slice A4 x.fds.length c4) ∧ wr.cell? ⟨w.heap.size + 1 + 1, 0, none⟩ = some (.int .i64 qa) ∧ wr.cell? ⟨w.heap.size + 1 + 1, 1, none⟩ = some (.int .i64 qb) ∧ wr.cell? ⟨w.heap.size + 1 + 1, 2, none⟩ = some (.int .i64 qc) ∧ wr.cell? ⟨w.heap.size + 1 + 1, 3, none⟩ = some (.int .i64 f) ∧ wr.cell? ⟨w.heap.size + 1 + 1, 4, none⟩ = some (.int .i64 t) := fun wr hwr => ⟨cell_mono hwr (by rw [hW1]; go_simp), cell_mono hwr (by rw [hW1]; go_simp), cell_mono hwr (by rw [hW1]; go_simp), cell_mono hwr (by rw [hW1]; go_simp), cell_mono hwr (by rw [hW1]; go_simp), cell_mono hwr (by rw [hW1]; go_simp), cell_mono hwr (by rw [hW1]; go_simp), cell_mono hwr (by rw [hW1]; go_simp), cell_mono hwr (by rw [hW1]; go_simp), cell_mono hwr (by rw [hW1]; go_simp), cell_mono hwr (by rw [hW1]; go_simp), cell_mono hwr (by rw [hW1]; go_simp), cell_mono hwr (by rw [hW1]; go_simp)⟩
  have HW := Lib.hid hW1
  clear hW1
  go_enter Try.func7, Try.ntmps7
  go_wp2_with fail
  rw [← HW.out]
  have hbA1 : Below W1.heap.size W1 W1 := Below.refl _ _
  refine (awake _).mono ?_
  rintro e w2 ⟨rfl, hbA2⟩
  have hbz2 := b_then hb1 hbA2
  obtain ⟨l20, l21, l22, l23, l24, l25, l26, l27, l28, l29, l210, l211, l212⟩ := q _ hbA2
  go_wp2_with fail
  refine (r05Few s _ _ (hs'.out.mono hbz2)).mono ?_
  rintro e w3 ⟨rfl, hb3⟩
  have hbA3 := b_then hbA2 hb3
  have hbz3 := b_then hb1 hbA3
  obtain ⟨l30, l31, l32, l33, l34, l35, l36, l37, l38, l39, l310, l311, l312⟩ := q _ hbA3
  rcases Bool.eq_false_or_eq_true (decide (s.nodes.length ≤ 40) && decide (s.powers.length ≤ 40) && decide (s.walls.length ≤ 40)) with q1 | q1
  rotate_left
  · rw [q1]
    go_wp2
    go_ret
    exact ⟨rfl, hbz3⟩
  rw [q1]
  clear q1
  go_wp2_with fail
  refine (r06Few x _ _ (hx'.out.mono hbz3)).mono ?_
  rintro e w4 ⟨rfl, hb4⟩
  have hbA4 := b_then hbA3 hb4
  have hbz4 := b_then hb1 hbA4
  obtain ⟨l40, l41, l42, l43, l44, l45, l46, l47, l48, l49, l410, l411, l412⟩ := q _ hbA4
  rcases Bool.eq_false_or_eq_true (fewB x) with q2 | q2
  rotate_left
  · rw [q2]
    go_wp2
    go_ret
    exact ⟨rfl, hbz4⟩
  rw [q2]
  clear q2
  go_wp2_with fail
  refine (sFactor x _ qa qb qc f _ (hx'.out.mono hbz4)).mono ?_
  rintro e w5 ⟨rfl, hb5⟩
  have hbA5 := b_then hbA4 hb5
  have hbz5 := b_then hb1 hbA5
  obtain ⟨l50, l51, l52, l53, l54, l55, l56, l57, l58, l59, l510, l511, l512⟩ := q _ hbA5
  go_wp2_with fail
  refine (r06Factor x _ qa qb qc f _ (hx'.out.mono hbz5)).mono ?_
  rintro e w6 ⟨rfl, hb6⟩
  have hbA6 := b_then hbA5 hb6
  have hbz6 := b_then hb1 hbA6
  obtain ⟨l60, l61, l62, l63, l64, l65, l66, l67, l68, l69, l610, l611, l612⟩ := q _ hbA6
  generalize facN x qa qb qc f = N1
  generalize facE x qa qb qc f = E1
  go_wp2_with fail
  refine (sSignal s x _ _ qa qb qc f _ (hs'.out.mono hbz6) (hx'.out.mono hbz6)).mono ?_
  rintro e w7 ⟨rfl, hb7⟩
  have hbA7 := b_then hbA6 hb7
  have hbz7 := b_then hb1 hbA7
  obtain ⟨l70, l71, l72, l73, l74, l75, l76, l77, l78, l79, l710, l711, l712⟩ := q _ hbA7
  go_wp2_with fail
  refine (r06Signal s x _ _ qa qb qc f _ (hs'.out.mono hbz7) (hx'.out.mono hbz7)).mono ?_
  rintro e w8 ⟨rfl, hb8⟩
  have hbA8 := b_then hbA7 hb8
  have hbz8 := b_then hb1 hbA8
  obtain ⟨l80, l81, l82, l83, l84, l85, l86, l87, l88, l89, l810, l811, l812⟩ := q _ hbA8
  generalize sigN s x qa qb qc f = N2
  generalize sigE s x qa qb qc f = E2
  go_wp2_with fail
  refine (sWorst s x _ _ qa qb _ (hs'.out.mono hbz8) (hx'.out.mono hbz8)).mono ?_
  rintro e w9 ⟨rfl, hb9⟩
  have hbA9 := b_then hbA8 hb9
  have hbz9 := b_then hb1 hbA9
  obtain ⟨l90, l91, l92, l93, l94, l95, l96, l97, l98, l99, l910, l911, l912⟩ := q _ hbA9
  go_wp2_with fail
  refine (r06Worst s x _ _ qa qb _ (hs'.out.mono hbz9) (hx'.out.mono hbz9)).mono ?_
  rintro e w10 ⟨rfl, hb10⟩
  have hbA10 := b_then hbA9 hb10
  have hbz10 := b_then hb1 hbA10
  obtain ⟨l100, l101, l102, l103, l104, l105, l106, l107, l108, l109, l1010, l1011, l1012⟩ := q _ hbA10
  generalize wstN s x qa qb = N3
  generalize nodesE s x qa qb = E3
  go_wp2
  go_ret
  exact ⟨rfl, hbz10⟩
end Go.Proofs.Ytlndgoaobalenaa
