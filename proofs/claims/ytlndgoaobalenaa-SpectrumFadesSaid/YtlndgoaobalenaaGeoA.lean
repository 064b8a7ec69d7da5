/- The program's power at a point, with errors. -/
import Derived.Test.YtlndgoaobalenaaGeo9
namespace Go.Proofs.Ytlndgoaobalenaa
open Go.RowKit
set_option linter.unusedVariables false
set_option linter.unusedSimpArgs false
set_option maxHeartbeats 4000000
set_option maxRecDepth 100000
def atE (s : Site) (a : Pt) (p : Int) (b : Pt) : Int := if siteB s then (if ptB a && ptB b && powB p then 0 else 2) else 1
def atN (s : Site) (a : Pt) (p : Int) (b : Pt) : Int := if siteB s && (ptB a && ptB b && powB p) then atI s a p b else 0
theorem gAt (s : Site) (v : Value) (a : Pt) (p : Int) (b : Pt) (w : World) (hs : SiteV w v s) : Calls Try.prog 47 #[v, .agg #[.int .i64 (a).x, .int .i64 (a).y], .int .i64 p, .agg #[.int .i64 (b).x, .int .i64 (b).y]] w fun e w' => e = .returned (.tuple #[.int .i64 (atN s a p b), .int .i64 (atE s a p b)]) ∧ Below w.heap.size w w' := by
  have hu := Try.underlying45
  have hu2 := Try.underlying27
  have hs' := Lib.hid hs
  obtain ⟨v0, v1, v2, rfl, h0, h1, h2⟩ := hs
  obtain ⟨A0, c0, rfl, _⟩ := h0
  obtain ⟨A1, c1, rfl, _⟩ := h1
  obtain ⟨A2, c2, rfl, _⟩ := h2
  obtain ⟨W1, hW1⟩ : ∃ W : World, W = (((w.alloc (.cells #[.slice A0 s.nodes.length c0, .slice A1 s.powers.length c1, .slice A2 s.walls.length c2, .int .i64 s.ex, .int .i64 s.noise, .int .i64 s.thr] 45)).alloc (.cells #[.int .i64 (a).x, .int .i64 (a).y] 27)).alloc (.cells #[.int .i64 (b).x, .int .i64 (b).y] 27)) := ⟨_, rfl⟩
  have hb1 : Below w.heap.size w W1 := by rw [hW1]; (repeat (first | exact Below.refl _ _ | assumption | apply b_alloc | apply b_drewN | apply b_drew))
  have q : ∀ wr : World, Below W1.heap.size W1 wr → wr.cell? ⟨w.heap.size, 0, none⟩ = some (.slice A0 s.nodes.length c0) ∧ wr.cell? ⟨w.heap.size, 1, none⟩ = some (.slice A1 s.powers.length c1) ∧ wr.cell? ⟨w.heap.size, 2, none⟩ = some (.slice A2 s.walls.length c2) ∧ wr.cell? ⟨w.heap.size, 3, none⟩ = some (.int .i64 s.ex) ∧ wr.cell? ⟨w.heap.size, 4, none⟩ = some (.int .i64 s.noise) ∧ wr.cell? ⟨w.heap.size, 5, none⟩ = some (.int .i64 s.thr) ∧ wr.cell? ⟨w.heap.size + 1, 0, none⟩ = some (.int .i64 (a).x) ∧ wr.cell? ⟨w.heap.size + 1, 1, none⟩ = some (.int .i64 (a).y) ∧ wr.cell? ⟨w.heap.size + 1 + 1, 0, none⟩ = some (.int .i64 (b).x) ∧ wr.cell? ⟨w.heap.size + 1 + 1, 1, none⟩ = some (.int .i64 (b).y) := fun wr hwr => ⟨cell_mono hwr (by rw [hW1]; go_simp), cell_mono hwr (by rw [hW1]; go_simp), cell_mono hwr (by rw [hW1]; go_simp), cell_mono hwr (by rw [hW1]; go_simp), cell_mono hwr (by rw [hW1]; go_simp), cell_mono hwr (by rw [hW1]; go_simp), cell_mono hwr (by rw [hW1]; go_simp), cell_mono hwr (by rw [hW1]; go_simp), cell_mono hwr (by rw [hW1]; go_simp), cell_mono hwr (by rw [hW1]; go_simp)⟩
  have HW := Lib.hid hW1
  clear hW1
  go_enter Try.func47, Try.ntmps47
  go_wp2_with fail
  rw [← HW.out]
  refine (gCheck s _ _ (hs'.out.mono hb1)).mono ?_
  rintro e w2 ⟨rfl, hb2⟩
  obtain ⟨l0, l1, l2, l3, l4, l5, l6, l7, l8, l9⟩ := q _ hb2
  have hbz := b_then hb1 hb2
  rcases Bool.eq_false_or_eq_true (siteB s) with z | z
  · rw [z, okN_true]
    have Q := Lib.hid z
    clear z
    go_wp2_with fail
    refine (gPoint a _).mono ?_
    rintro e w3 ⟨rfl, hb3⟩
    have hb23 := b_then hb2 hb3
    obtain ⟨m0, m1, m2, m3, m4, m5, m6, m7, m8, m9⟩ := q _ hb23
    have hbz3 := b_then hb1 hb23
    rcases Bool.eq_false_or_eq_true (ptB a) with z1 | z1
    · rw [z1]
      go_wp2_with fail
      refine (gPoint b _).mono ?_
      rintro e w4 ⟨rfl, hb4⟩
      have hb24 := b_then hb23 hb4
      obtain ⟨n0, n1, n2, n3, n4, n5, n6, n7, n8, n9⟩ := q _ hb24
      have hbz4 := b_then hb1 hb24
      rcases Bool.eq_false_or_eq_true (ptB b) with z2 | z2
      · rw [z2]
        go_wp2_with fail
        refine (gIsPower p _).mono ?_
        rintro e w5 ⟨rfl, rfl⟩
        rcases Bool.eq_false_or_eq_true (powB p) with z3 | z3
        · rw [z3]
          have he : atE s a p b = 0 := by simp [atE, Q.out, *]
          have hn : atN s a p b = atI s a p b := by simp [atN, Q.out, *]
          have He := Lib.hid he
          have Hn := Lib.hid hn
          clear he hn
          go_wp2_with fail
          refine (gAt0 s _ a p b _ (hs'.out.mono hbz4) Q.out z1 z2 z3).mono ?_
          rintro e w6 ⟨rfl, hb6⟩
          go_wp2
          go_ret2
          exact ⟨ret_two (by rw [Hn.out]; rfl) (by rw [He.out]; rfl), b_then hbz4 hb6⟩
        · rw [z3]
          have he : atE s a p b = 2 := by simp [atE, Q.out, *]
          have hn : atN s a p b = 0 := by simp [atN, Q.out, *]
          have He := Lib.hid he
          have Hn := Lib.hid hn
          clear he hn
          go_wp2
          go_ret2
          exact ⟨ret_two (by rw [Hn.out]; rfl) (by rw [He.out]; rfl), hbz4⟩
      · rw [z2]
        have he : atE s a p b = 2 := by simp [atE, Q.out, *]
        have hn : atN s a p b = 0 := by simp [atN, Q.out, *]
        have He := Lib.hid he
        have Hn := Lib.hid hn
        clear he hn
        go_wp2
        go_ret2
        exact ⟨ret_two (by rw [Hn.out]; rfl) (by rw [He.out]; rfl), hbz4⟩
    · rw [z1]
      have he : atE s a p b = 2 := by simp [atE, Q.out, *]
      have hn : atN s a p b = 0 := by simp [atN, Q.out, *]
      have He := Lib.hid he
      have Hn := Lib.hid hn
      clear he hn
      go_wp2
      go_ret2
      exact ⟨ret_two (by rw [Hn.out]; rfl) (by rw [He.out]; rfl), hbz3⟩
  · rw [z, okN_false]
    have he : atE s a p b = 1 := by simp [atE, z]
    have hn : atN s a p b = 0 := by simp [atN, z]
    have He := Lib.hid he
    have Hn := Lib.hid hn
    clear he hn
    go_wp2
    go_ret2
    exact ⟨ret_two (by rw [Hn.out]; rfl) (by rw [He.out]; rfl), hbz⟩
end Go.Proofs.Ytlndgoaobalenaa
