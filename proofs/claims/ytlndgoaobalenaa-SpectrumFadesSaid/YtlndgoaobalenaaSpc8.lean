/- External power: specs; the reference's checks of nodes and times. -/
import Derived.Test.YtlndgoaobalenaaGeoC
import Derived.Test.YtlndgoaobalenaaSpc5
import Derived.Test.YtlndgoaobalenaaHas
namespace Go.Proofs.Ytlndgoaobalenaa
open Go.RowKit
set_option linter.unusedVariables false
set_option linter.unusedSimpArgs false
set_option maxHeartbeats 4000000
set_option maxRecDepth 100000
def inB (s : Site) (a : Int) : Bool := decide (0 ≤ a) && decide (a < s.nodes.length)
def nodesE (s : Site) (x : Spm) (a b : Int) : Int := if siteB s && spmB x then (if inB s a && inB s b then 0 else 7) else 1
theorem r06time (t : Int) (w : World) : Calls Try.prog 55 #[.int .i64 t] w fun e w' => e = .returned (.bool (tmB t)) ∧ w = w' := by
  go_enter Try.func55, Try.ntmps55
  go_wp2
  all_goals (go_ret; exact ⟨ret_bool (by rw [Bool.eq_iff_iff]; simp [tmB]; try omega), rfl⟩)
theorem r05Few (s : Site) (v : Value) (w : World) (hs : SiteV w v s) : Calls Try.prog 18 #[v] w fun e w' => e = .returned (.bool (decide (s.nodes.length ≤ 40) && decide (s.powers.length ≤ 40) && decide (s.walls.length ≤ 40))) ∧ Below w.heap.size w w' := by
  have hu := Try.underlying45
  obtain ⟨v0, v1, v2, rfl, h0, h1, h2⟩ := hs
  obtain ⟨A0, c0, rfl, hc0, hm0, _⟩ := h0
  obtain ⟨A1, c1, rfl, hc1, hm1, _⟩ := h1
  obtain ⟨A2, c2, rfl, hc2, hm2, _⟩ := h2
  unfold big at hm0 hm1 hm2
  go_enter Try.func18, Try.ntmps18
  go_wp2
  all_goals (go_ret; exact ⟨ret_bool (by rw [Bool.eq_iff_iff]; simp; try omega), by (repeat (first | exact Below.refl _ _ | assumption | apply b_alloc | apply b_drewN | apply b_drew))⟩)
theorem r06nodes (s : Site) (x : Spm) (v xv : Value) (a b : Int) (w : World) (hs : SiteV w v s) (hx : SpmV w xv x) : Calls Try.prog 49 #[v, xv, .int .i64 a, .int .i64 b] w fun e w' => e = .returned (.int .i64 (nodesE s x a b)) ∧ Below w.heap.size w w' := by
  have hu := Try.underlying45
  have hu2 := Try.underlying25
  have hs' := Lib.hid hs
  have hx' := Lib.hid hx
  obtain ⟨v0, v1, v2, rfl, h0, h1, h2⟩ := hs
  obtain ⟨A0, c0, rfl, hc0, hm0, _⟩ := h0
  obtain ⟨A1, c1, rfl, _⟩ := h1
  obtain ⟨A2, c2, rfl, _⟩ := h2
  obtain ⟨x0, x1, rfl, _⟩ := hx
  unfold big at hm0
  obtain ⟨R, hR⟩ : ∃ R, nodesE s x a b = R := ⟨_, rfl⟩
  rw [hR]
  have HR := Lib.hid hR
  clear hR
  obtain ⟨W1, hW1⟩ : ∃ W : World, W = ((w.alloc (.cells #[.slice A0 s.nodes.length c0, .slice A1 s.powers.length c1, .slice A2 s.walls.length c2, .int .i64 s.ex, .int .i64 s.noise, .int .i64 s.thr] 45)).alloc (.cells #[x0, x1] 25)) := ⟨_, rfl⟩
  have hb1 : Below w.heap.size w W1 := by rw [hW1]; (repeat (first | exact Below.refl _ _ | assumption | apply b_alloc | apply b_drewN | apply b_drew))
  have q : ∀ wr : World, Below W1.heap.size W1 wr → wr.cell? ⟨w.heap.size, 0, none⟩ = some (.slice A0 s.nodes.length c0) ∧ wr.cell? ⟨w.heap.size, 1, none⟩ = some (.slice A1 s.powers.length c1) ∧ wr.cell? ⟨w.heap.size, 2, none⟩ = some (.slice A2 s.walls.length c2) ∧ wr.cell? ⟨w.heap.size, 3, none⟩ = some (.int .i64 s.ex) ∧ wr.cell? ⟨w.heap.size, 4, none⟩ = some (.int .i64 s.noise) ∧ wr.cell? ⟨w.heap.size, 5, none⟩ = some (.int .i64 s.thr) ∧ wr.cell? ⟨w.heap.size + 1, 0, none⟩ = some (x0) ∧ wr.cell? ⟨w.heap.size + 1, 1, none⟩ = some (x1) := fun wr hwr => ⟨cell_mono hwr (by rw [hW1]; go_simp), cell_mono hwr (by rw [hW1]; go_simp), cell_mono hwr (by rw [hW1]; go_simp), cell_mono hwr (by rw [hW1]; go_simp), cell_mono hwr (by rw [hW1]; go_simp), cell_mono hwr (by rw [hW1]; go_simp), cell_mono hwr (by rw [hW1]; go_simp), cell_mono hwr (by rw [hW1]; go_simp)⟩
  have HW := Lib.hid hW1
  clear hW1
  go_enter Try.func49, Try.ntmps49
  go_wp2_with fail
  rw [← HW.out]
  refine (r05Check s _ _ (hs'.out.mono hb1)).mono ?_
  rintro e w2 ⟨rfl, hb2⟩
  obtain ⟨l0, l1, l2, l3, l4, l5, l6, l7⟩ := q _ hb2
  have hbz := b_then hb1 hb2
  rcases Bool.eq_false_or_eq_true (siteB s) with z | z
  · rw [z, okN_true]
    have Q := Lib.hid z
    clear z
    go_wp2_with fail
    refine (r06Check x _ _ (hx'.out.mono hbz)).mono ?_
    rintro e w3 ⟨rfl, hb3⟩
    have hb23 := b_then hb2 hb3
    obtain ⟨m0, m1, m2, m3, m4, m5, m6, m7⟩ := q _ hb23
    have hbz3 := b_then hb1 hb23
    rcases Bool.eq_false_or_eq_true (spmB x) with z1 | z1
    · rw [z1, okN_true]
      have Q1 := Lib.hid z1
      clear z1
      by_cases G : (0 ≤ a ∧ a < s.nodes.length) ∧ (0 ≤ b ∧ b < s.nodes.length)
      · have hfin : R = 0 := by rw [← HR.out]; simp [nodesE, inB, Q.out, Q1.out, G]
        subst hfin
        have HG := Lib.hid G
        clear G
        go_wp2_with fail
        all_goals first
          | (exfalso; have := HG.out; omega)
          | (go_ret; exact ⟨rfl, hbz3⟩)
      · have hfin : R = 7 := by
          rw [← HR.out]
          have : (inB s a && inB s b) = false := by rw [Bool.eq_false_iff]; intro h; apply G; simpa [inB] using h
          simp [nodesE, Q.out, Q1.out, this]
        subst hfin
        have HG := Lib.hid G
        clear G
        go_wp2_with fail
        all_goals first
          | (exfalso; have := HG.out; omega)
          | (go_ret; exact ⟨rfl, hbz3⟩)
    · rw [z1, okN_false]
      have hfin : R = 1 := by rw [← HR.out]; simp [nodesE, Q.out, z1]
      subst hfin
      go_wp2
      go_ret
      exact ⟨rfl, hbz3⟩
  · rw [z, okN_false]
    have hfin : R = 1 := by rw [← HR.out]; simp [nodesE, z]
    subst hfin
    go_wp2
    go_ret
    exact ⟨rfl, hbz⟩
end Go.Proofs.Ytlndgoaobalenaa
