/- The program's check of a site, and its power at a point with errors. The program's power at a point, with errors. The reference's power at a point. The reference's power at a point, with errors. -/
import Derived.Test.YtpbhoeaadnemhaaGreatM4
import Derived.Laws.EntriesVeiled
import Derived.Test.YtpbhoeaadnemhaaGreatM3
import Derived.Test.YtpbhoeaadnemhaaGreatM2
namespace Go.Proofs.YtpbhoeaadnemhaaGreat
open Go.RowKit
set_option linter.unusedVariables false
set_option linter.unusedSimpArgs false
set_option maxHeartbeats 4000000
set_option maxRecDepth 100000
theorem gCheck (s : Site) (v : Value) (w : World) (hs : SiteV w v s) : Calls Tryz.prog 58 #[v] w fun e w' => e = .returned (.int .i64 (okN (siteB s))) ∧ Below w.heap.size w w' := by
  have hu := Tryz.underlying26
  obtain ⟨nodes, powers, walls, ex, noise, thr⟩ := s
  obtain ⟨v0, v1, v2, rfl, h0, h1, h2⟩ := hs
  have H0 := Lib.hid h0
  have H1 := Lib.hid h1
  have H2 := Lib.hid h2
  obtain ⟨A0, c0, rfl, hc0, hm0, _⟩ := h0
  obtain ⟨A1, c1, rfl, hc1, hm1, _⟩ := h1
  obtain ⟨A2, c2, rfl, hc2, hm2, _⟩ := h2
  dsimp only at *
  unfold big at hm0 hm1 hm2
  obtain ⟨R, hR⟩ : ∃ R, okN (siteB ⟨nodes, powers, walls, ex, noise, thr⟩) = R := ⟨_, rfl⟩
  rw [hR]
  have HR := Lib.hid hR
  clear hR
  obtain ⟨W1, hW1⟩ : ∃ W : World, W = ((w.alloc (.cells #[.slice A0 nodes.length c0, .slice A1 powers.length c1, .slice A2 walls.length c2, .int .i64 ex, .int .i64 noise, .int .i64 thr] 26)).alloc (.cells #[.func (.func 73) #[] #[]] 89)) := ⟨_, rfl⟩; have hb1 : Below w.heap.size w W1 := (by rw [hW1]; (repeat (first | exact Below.refl _ _ | assumption | apply b_alloc | apply b_drewN | apply b_drew))); have p : ∀ wq : World, Below W1.heap.size W1 wq → wq.cell? ⟨w.heap.size, 0, none⟩ = some (.slice A0 nodes.length c0) ∧ wq.cell? ⟨w.heap.size, 1, none⟩ = some (.slice A1 powers.length c1) ∧ wq.cell? ⟨w.heap.size, 2, none⟩ = some (.slice A2 walls.length c2) ∧ wq.cell? ⟨w.heap.size, 3, none⟩ = some (.int .i64 ex) ∧ wq.cell? ⟨w.heap.size, 4, none⟩ = some (.int .i64 noise) ∧ wq.cell? ⟨w.heap.size, 5, none⟩ = some (.int .i64 thr) ∧ wq.cell? ⟨w.heap.size + 1, 0, none⟩ = some (.func (.func 73) #[] #[]) := (fun wq hwr => ⟨cell_mono hwr (by rw [hW1]; go_simp), cell_mono hwr (by rw [hW1]; go_simp), cell_mono hwr (by rw [hW1]; go_simp), cell_mono hwr (by rw [hW1]; go_simp), cell_mono hwr (by rw [hW1]; go_simp), cell_mono hwr (by rw [hW1]; go_simp), cell_mono hwr (by rw [hW1]; go_simp)⟩); have HW := Lib.hid hW1; clear hW1
  go_enter Tryz.func58, Tryz.ntmps58
  by_cases e1 : 2 ≤ nodes.length ∧ nodes.length ≤ 32
  · obtain ⟨n0, n1⟩ := e1
    have g0 : decide ((nodes.length : Int) < 2) = false := by simp; omega
    have g1 : decide (32 < (nodes.length : Int)) = false := by simp; omega
    go_wp2_with fail
    rw [← HW.out]
    refine (conPt nodes _ _ (H0.out.mono KPt.st hb1)).mono ?_
    rintro e w2 ⟨rfl, hb2⟩
    rw [any_not]
    obtain ⟨a0, a1, a2, a3, a4, a5, a6⟩ := p _ hb2
    have hbz2 := b_then hb1 hb2
    rcases Bool.eq_false_or_eq_true (nodes.all ptB) with q1 | q1
    · rw [q1]
      have Q1 := Lib.hid q1
      clear q1
      by_cases e2 : powers.length = nodes.length
      · have g2 : ((powers.length : Int) == (nodes.length : Int)) = true := by simp; omega
        have E2 := Lib.hid e2
        clear e2 g2
        go_wp2_with fail
        any_goals (exfalso; have := E2.out; omega)
        refine (conPow powers _ _ (H1.out.mono KI.st hbz2)).mono ?_
        rintro e w3 ⟨rfl, hb3⟩
        rw [any_not]
        have hb23 := b_then hb2 hb3
        obtain ⟨b0, b1, b2, b3, b4, b5, b6⟩ := p _ hb23
        have hbz3 := b_then hb1 hb23
        rcases Bool.eq_false_or_eq_true (powers.all powB) with q2 | q2
        · rw [q2]
          have Q2 := Lib.hid q2
          clear q2
          by_cases e3 : walls.length ≤ 32
          · have g3 : decide (32 < (walls.length : Int)) = false := by simp; omega
            go_wp2_with fail
            refine (conWl walls _ _ (H2.out.mono KWl.st hbz3) b6).mono ?_
            rintro e w4 ⟨rfl, hb4⟩
            rw [any_not]
            have hb24 := b_then hb23 hb4
            obtain ⟨c0, c1, c2, c3, c4, c5, c6⟩ := p _ hb24
            have hbz4 := b_then hb1 hb24
            rcases Bool.eq_false_or_eq_true (walls.all wlB) with q3 | q3
            · rw [q3]
              have Q3 := Lib.hid q3
              clear q3
              by_cases G : (ex = 2 ∨ ex = 4) ∧ 1000 ≤ thr ∧ thr ≤ 100000 ∧ 1 ≤ noise ∧ noise ≤ 68719476736
              · have hfin : siteB ⟨nodes, powers, walls, ex, noise, thr⟩ = true := by simp [siteB, headB, rightB, n0, n1, E2.out, e3, Q1.out, Q2.out, Q3.out, G]
                have Hfin := Lib.hid hfin
                have HG := Lib.hid G
                clear hfin G
                go_wp2_with fail
                all_goals first
                  | (exfalso; have := HG.out; omega)
                  | (go_ret; exact ⟨ret_int (by rw [← HR.out, Hfin.out]; rfl), hbz4⟩)
              · have hfin : siteB ⟨nodes, powers, walls, ex, noise, thr⟩ = false := by
                  rw [Bool.eq_false_iff]; intro h; apply G; simp [siteB, headB, rightB] at h; omega
                have Hfin := Lib.hid hfin
                have HG := Lib.hid G
                clear hfin G
                go_wp2_with fail
                all_goals first
                  | (exfalso; have := HG.out; omega)
                  | (go_ret; exact ⟨ret_int (by rw [← HR.out, Hfin.out]; rfl), hbz4⟩)
            · rw [q3]
              have Q3 := Lib.hid q3
              clear q3
              go_wp2
              go_ret
              exact ⟨ret_int (by rw [← HR.out]; simp [okN, siteB, Q3.out]), hbz4⟩
          · have g3 : decide (32 < (walls.length : Int)) = true := by simp; omega
            have hfin : siteB ⟨nodes, powers, walls, ex, noise, thr⟩ = false := by simp [siteB, headB, e3]
            have Hfin := Lib.hid hfin
            clear hfin e3
            go_wp2
            go_ret
            exact ⟨ret_int (by rw [← HR.out, Hfin.out]; rfl), hbz3⟩
        · rw [q2]
          have Q2 := Lib.hid q2
          clear q2
          go_wp2
          go_ret
          exact ⟨ret_int (by rw [← HR.out]; simp [okN, siteB, Q2.out]), hbz3⟩
      · have g2 : ((powers.length : Int) == (nodes.length : Int)) = false := by simp; omega
        have hfin : siteB ⟨nodes, powers, walls, ex, noise, thr⟩ = false := by simp [siteB, headB, e2]
        have Hfin := Lib.hid hfin
        have E2 := Lib.hid e2
        clear hfin e2 g2
        go_wp2_with fail
        all_goals first
          | (exfalso; have := E2.out; omega)
          | (go_ret; exact ⟨ret_int (by rw [← HR.out, Hfin.out]; rfl), hbz2⟩)
    · rw [q1]
      have Q1 := Lib.hid q1
      clear q1
      go_wp2
      go_ret
      exact ⟨ret_int (by rw [← HR.out]; simp [okN, siteB, Q1.out]), hbz2⟩
  · have hfin : siteB ⟨nodes, powers, walls, ex, noise, thr⟩ = false := by
      rw [Bool.eq_false_iff]; intro h; apply e1; simp [siteB, headB] at h; omega
    have Hfin := Lib.hid hfin
    have E1 := Lib.hid e1
    clear hfin e1
    go_wp2_with fail
    all_goals first
      | (exfalso; have := E1.out; omega)
      | (go_ret; exact ⟨ret_int (by rw [← HR.out, Hfin.out]; rfl), by (repeat (first | exact Below.refl _ _ | assumption | apply b_alloc | apply b_drewN | apply b_drew))⟩)
end Go.Proofs.YtpbhoeaadnemhaaGreat
namespace Go.Proofs.YtpbhoeaadnemhaaGreat
open Go.RowKit
set_option linter.unusedVariables false
set_option linter.unusedSimpArgs false
set_option maxHeartbeats 4000000
set_option maxRecDepth 100000
def atE (s : Site) (a : Pt) (p : Int) (b : Pt) : Int := if siteB s then (if ptB a && ptB b && powB p then 0 else 2) else 1
def atN (s : Site) (a : Pt) (p : Int) (b : Pt) : Int := if siteB s && (ptB a && ptB b && powB p) then atI s a p b else 0
theorem gAt (s : Site) (v : Value) (a : Pt) (p : Int) (b : Pt) (w : World) (hs : SiteV w v s) : Calls Tryz.prog 71 #[v, .agg #[.int .i64 (a).x, .int .i64 (a).y], .int .i64 p, .agg #[.int .i64 (b).x, .int .i64 (b).y]] w fun e w' => e = .returned (.tuple #[.int .i64 (atN s a p b), .int .i64 (atE s a p b)]) ∧ Below w.heap.size w w' := by
  have hu := Tryz.underlying26
  have hu2 := Tryz.underlying54
  have hs' := Lib.hid hs
  obtain ⟨v0, v1, v2, rfl, h0, h1, h2⟩ := hs
  obtain ⟨A0, c0, rfl, _⟩ := h0
  obtain ⟨A1, c1, rfl, _⟩ := h1
  obtain ⟨A2, c2, rfl, _⟩ := h2
  obtain ⟨W1, hW1⟩ : ∃ W : World, W = (((w.alloc (.cells #[.slice A0 s.nodes.length c0, .slice A1 s.powers.length c1, .slice A2 s.walls.length c2, .int .i64 s.ex, .int .i64 s.noise, .int .i64 s.thr] 26)).alloc (.cells #[.int .i64 (a).x, .int .i64 (a).y] 54)).alloc (.cells #[.int .i64 (b).x, .int .i64 (b).y] 54)) := ⟨_, rfl⟩; have hb1 : Below w.heap.size w W1 := (by rw [hW1]; (repeat (first | exact Below.refl _ _ | assumption | apply b_alloc | apply b_drewN | apply b_drew))); have q : ∀ wq : World, Below W1.heap.size W1 wq → wq.cell? ⟨w.heap.size, 0, none⟩ = some (.slice A0 s.nodes.length c0) ∧ wq.cell? ⟨w.heap.size, 1, none⟩ = some (.slice A1 s.powers.length c1) ∧ wq.cell? ⟨w.heap.size, 2, none⟩ = some (.slice A2 s.walls.length c2) ∧ wq.cell? ⟨w.heap.size, 3, none⟩ = some (.int .i64 s.ex) ∧ wq.cell? ⟨w.heap.size, 4, none⟩ = some (.int .i64 s.noise) ∧ wq.cell? ⟨w.heap.size, 5, none⟩ = some (.int .i64 s.thr) ∧ wq.cell? ⟨w.heap.size + 1, 0, none⟩ = some (.int .i64 (a).x) ∧ wq.cell? ⟨w.heap.size + 1, 1, none⟩ = some (.int .i64 (a).y) ∧ wq.cell? ⟨w.heap.size + 1 + 1, 0, none⟩ = some (.int .i64 (b).x) ∧ wq.cell? ⟨w.heap.size + 1 + 1, 1, none⟩ = some (.int .i64 (b).y) := (fun wq hwr => ⟨cell_mono hwr (by rw [hW1]; go_simp), cell_mono hwr (by rw [hW1]; go_simp), cell_mono hwr (by rw [hW1]; go_simp), cell_mono hwr (by rw [hW1]; go_simp), cell_mono hwr (by rw [hW1]; go_simp), cell_mono hwr (by rw [hW1]; go_simp), cell_mono hwr (by rw [hW1]; go_simp), cell_mono hwr (by rw [hW1]; go_simp), cell_mono hwr (by rw [hW1]; go_simp), cell_mono hwr (by rw [hW1]; go_simp)⟩); have HW := Lib.hid hW1; clear hW1
  go_enter Tryz.func71, Tryz.ntmps71
  go_wp2_with fail
  rw [← HW.out]
  refine (gCheck s _ _ (hs'.out.mono hb1)).mono ?_
  rintro e w2 ⟨rfl, hb2⟩
  obtain ⟨l0, l1, l2, l3, l4, l5, l6, l7, l8, l9⟩ := q _ hb2
  have hbz := b_then hb1 hb2
  rcases Bool.eq_false_or_eq_true (siteB s) with z | z
  · rw [z, okN_true]
    have Q := Lib.hid z
    clear z
    go_wp2_with fail
    refine (gPoint a _).mono ?_
    rintro e w3 ⟨rfl, hb3⟩
    have hb23 := b_then hb2 hb3
    obtain ⟨m0, m1, m2, m3, m4, m5, m6, m7, m8, m9⟩ := q _ hb23
    have hbz3 := b_then hb1 hb23
    rcases Bool.eq_false_or_eq_true (ptB a) with z1 | z1
    · rw [z1]
      go_wp2_with fail
      refine (gPoint b _).mono ?_
      rintro e w4 ⟨rfl, hb4⟩
      have hb24 := b_then hb23 hb4
      obtain ⟨n0, n1, n2, n3, n4, n5, n6, n7, n8, n9⟩ := q _ hb24
      have hbz4 := b_then hb1 hb24
      rcases Bool.eq_false_or_eq_true (ptB b) with z2 | z2
      · rw [z2]
        go_wp2_with fail
        refine (gIsPower p _).mono ?_
        rintro e w5 ⟨rfl, rfl⟩
        rcases Bool.eq_false_or_eq_true (powB p) with z3 | z3
        · rw [z3]
          have he : atE s a p b = 0 := by simp [atE, Q.out, *]
          have hn : atN s a p b = atI s a p b := by simp [atN, Q.out, *]
          have He := Lib.hid he
          have Hn := Lib.hid hn
          clear he hn
          go_wp2_with fail
          refine (gAt0 s _ a p b _ (hs'.out.mono hbz4) Q.out z1 z2 z3).mono ?_
          rintro e w6 ⟨rfl, hb6⟩
          go_wp2
          go_ret2
          exact ⟨ret_two (by rw [Hn.out]; rfl) (by rw [He.out]; rfl), b_then hbz4 hb6⟩
        · rw [z3]
          have he : atE s a p b = 2 := by simp [atE, Q.out, *]
          have hn : atN s a p b = 0 := by simp [atN, Q.out, *]
          have He := Lib.hid he
          have Hn := Lib.hid hn
          clear he hn
          go_wp2
          go_ret2
          exact ⟨ret_two (by rw [Hn.out]; rfl) (by rw [He.out]; rfl), hbz4⟩
      · rw [z2]
        have he : atE s a p b = 2 := by simp [atE, Q.out, *]
        have hn : atN s a p b = 0 := by simp [atN, Q.out, *]
        have He := Lib.hid he
        have Hn := Lib.hid hn
        clear he hn
        go_wp2
        go_ret2
        exact ⟨ret_two (by rw [Hn.out]; rfl) (by rw [He.out]; rfl), hbz4⟩
    · rw [z1]
      have he : atE s a p b = 2 := by simp [atE, Q.out, *]
      have hn : atN s a p b = 0 := by simp [atN, Q.out, *]
      have He := Lib.hid he
      have Hn := Lib.hid hn
      clear he hn
      go_wp2
      go_ret2
      exact ⟨ret_two (by rw [Hn.out]; rfl) (by rw [He.out]; rfl), hbz3⟩
  · rw [z, okN_false]
    have he : atE s a p b = 1 := by simp [atE, z]
    have hn : atN s a p b = 0 := by simp [atN, z]
    have He := Lib.hid he
    have Hn := Lib.hid hn
    clear he hn
    go_wp2
    go_ret2
    exact ⟨ret_two (by rw [Hn.out]; rfl) (by rw [He.out]; rfl), hbz⟩
end Go.Proofs.YtpbhoeaadnemhaaGreat
namespace Go.Proofs.YtpbhoeaadnemhaaGreat
open Go.RowKit
attribute [local go_sem high] max2_mx min2_mn max_two min_two
set_option linter.unusedVariables false
set_option linter.unusedSimpArgs false
set_option maxHeartbeats 4000000
set_option maxRecDepth 100000
theorem r05CrossV (a b : Pt) (q : Wl) (ha : ptB a = true) (hb : ptB b = true) (hq : wlB q = true) {r : Bool} (hr : crossB a b q = r) (w : World) : Calls Tryz.prog 96 #[.agg #[.int .i64 (a).x, .int .i64 (a).y], .agg #[.int .i64 (b).x, .int .i64 (b).y], .agg #[.int .i64 (q).a.x, .int .i64 (q).a.y, .int .i64 (q).b.x, .int .i64 (q).b.y, .int .i64 (q).f]] w fun e w' => e = .returned (.bool r) ∧ Below w.heap.size w w' := by
  rw [← hr, ← crossV_is ha hb hq]
  exact r05CrossX a.x a.y b.x b.y q.a.x q.a.y q.b.x q.b.y q.f w
theorem r05At0 (s : Site) (v : Value) (a : Pt) (p : Int) (b : Pt) (w : World) (hs : SiteV w v s) (hv : siteB s = true) (ha : ptB a = true) (hb : ptB b = true) (hp : powB p = true) :
    Calls Tryz.prog 72 #[v, .agg #[.int .i64 (a).x, .int .i64 (a).y], .int .i64 p, .agg #[.int .i64 (b).x, .int .i64 (b).y]] w fun e w' => e = .returned (.int .i64 (atI s a p b)) ∧ Below w.heap.size w w' := by
  have hu := Tryz.underlying26
  have hu2 := Tryz.underlying54
  have hu3 := Tryz.underlying91
  obtain ⟨nodes, powers, walls, ex, noise, thr⟩ := s
  obtain ⟨v0, v1, v2, rfl, h0, h1, h2⟩ := hs
  obtain ⟨A0, c0, rfl, _⟩ := h0
  obtain ⟨A1, c1, rfl, _⟩ := h1
  obtain ⟨A2, c2, rfl, hc2, hm2, hr2⟩ := h2
  dsimp only at *
  unfold big at hm2
  obtain ⟨sq, sq0, sq1⟩ := square_is ha hb
  have hwl : ∀ q, q ∈ walls → wlB q = true := by
    simp only [siteB, Bool.and_eq_true, List.all_eq_true] at hv
    exact hv.2
  obtain ⟨p0, p1⟩ := pow_is hp
  obtain ⟨W1, hW1⟩ : ∃ W : World, W = (((w.alloc (.cells #[.slice A0 nodes.length c0, .slice A1 powers.length c1, .slice A2 walls.length c2, .int .i64 ex, .int .i64 noise, .int .i64 thr] 26)).alloc (.cells #[.int .i64 (a).x, .int .i64 (a).y] 54)).alloc (.cells #[.int .i64 (b).x, .int .i64 (b).y] 54)) := ⟨_, rfl⟩; have hb1 : Below w.heap.size w W1 := (by rw [hW1]; (repeat (first | exact Below.refl _ _ | assumption | apply b_alloc | apply b_drewN | apply b_drew))); have bx : ∀ wq : World, Below W1.heap.size W1 wq → wq.cell? ⟨w.heap.size, 0, none⟩ = some (.slice A0 nodes.length c0) ∧ wq.cell? ⟨w.heap.size, 1, none⟩ = some (.slice A1 powers.length c1) ∧ wq.cell? ⟨w.heap.size, 2, none⟩ = some (.slice A2 walls.length c2) ∧ wq.cell? ⟨w.heap.size, 3, none⟩ = some (.int .i64 ex) ∧ wq.cell? ⟨w.heap.size, 4, none⟩ = some (.int .i64 noise) ∧ wq.cell? ⟨w.heap.size, 5, none⟩ = some (.int .i64 thr) ∧ wq.cell? ⟨w.heap.size + 1, 0, none⟩ = some (.int .i64 (a).x) ∧ wq.cell? ⟨w.heap.size + 1, 1, none⟩ = some (.int .i64 (a).y) ∧ wq.cell? ⟨w.heap.size + 1 + 1, 0, none⟩ = some (.int .i64 (b).x) ∧ wq.cell? ⟨w.heap.size + 1 + 1, 1, none⟩ = some (.int .i64 (b).y) := (fun wq hwr => ⟨cell_mono hwr (by rw [hW1]; go_simp), cell_mono hwr (by rw [hW1]; go_simp), cell_mono hwr (by rw [hW1]; go_simp), cell_mono hwr (by rw [hW1]; go_simp), cell_mono hwr (by rw [hW1]; go_simp), cell_mono hwr (by rw [hW1]; go_simp), cell_mono hwr (by rw [hW1]; go_simp), cell_mono hwr (by rw [hW1]; go_simp), cell_mono hwr (by rw [hW1]; go_simp), cell_mono hwr (by rw [hW1]; go_simp)⟩); have HW := Lib.hid hW1; clear hW1
  go_enter Tryz.func72, Tryz.ntmps72
  go_wp2_with fail
  rw [← HW.out]
  refine (r05SquareW a b _).mono ?_
  rintro e w2 ⟨rfl, hb2⟩
  rw [sq]
  obtain ⟨l0, l1, l2, l3, l4, l5, l6, l7, l8, l9⟩ := bx _ hb2
  have hM0 : 100 ≤ max (squareI a b) 100 := Int.le_max_right _ _
  have hM1 : max (squareI a b) 100 ≤ 200000000 := Int.max_le.2 ⟨sq1, by omega⟩
  generalize hM : max (squareI a b) 100 = M at hM0 hM1
  obtain ⟨d0, d1⟩ := down p0 hM0
  obtain ⟨d2, d3⟩ := down d0 hM0
  by_cases hex : ex = 4
  · subst hex
    have hbase : baseI 4 a p b = p * 100 / M * 100 / M := by simp [baseI, hM]
    have Hbase := Lib.hid hbase
    clear hbase
    generalize hpb : p * 100 / M * 100 / M = pb at *
    go_wp2_with fail
    have hpw0 : powB pb = true := by rw [← Hbase.out]; exact base_pow _ a b hp
    have Hpw0 := Lib.hid hpw0
    clear hpw0
    go_loopw [10, 11] (fun q i wr => ∃ k : Nat, k ≤ walls.length ∧ i = .int .i64 k ∧ q = .int .i64 ((walls.take k).foldl (wallI a b) pb) ∧ Below W1.heap.size W1 wr) (fun _ i _ => walls.length - (intOf i).toNat)
    case atStart => exact ⟨0, Nat.zero_le _, rfl, by rw [hpb]; rfl, hb2⟩
    case round =>
      obtain ⟨k, hk, rfl, rfl, hbw⟩ := hrel
      clear l0 l1 l2 l3 l4 l5 l6 l7 l8 l9
      obtain ⟨m0, m1, m2, m3, m4, m5, m6, m7, m8, m9⟩ := bx _ hbw; have Lm0 := Later.cell m0; have Lm1 := Later.cell m1; have Lm2 := Later.cell m2; have Lm3 := Later.cell m3; have Lm4 := Later.cell m4; have Lm5 := Later.cell m5; have Lm6 := Later.cell m6; have Lm7 := Later.cell m7; have Lm8 := Later.cell m8; have Lm9 := Later.cell m9
      by_cases hlt : k < walls.length
      · obtain ⟨q, hx⟩ : ∃ q, walls[k]? = some q := ⟨_, List.getElem?_eq_getElem hlt⟩
        obtain ⟨B, off, rfl, e0, e1, e2, e3, e4⟩ := hr2.wl (b_then hb1 hbw) hx
        have E0 := Later.cell e0
        have E1 := Later.cell e1
        have E2 := Later.cell e2
        have E3 := Later.cell e3
        have E4 := Later.cell e4
        have hq := hwl q (List.mem_of_getElem? hx)
        have hsn := walls_snoc (a := a) (b := b) pb hx
        have hpk := walls_pow (a := a) (b := b) (walls.take k) Hpw0.out (fun q hq => hwl q (List.mem_of_mem_take hq))
        generalize hpg : (walls.take k).foldl (wallI a b) pb = pk at hsn hpk ⊢
        have Hsn := Lib.hid hsn
        have Hq := Lib.hid hq
        obtain ⟨k0, k1⟩ := pow_is hpk
        simp only [wlB, Bool.and_eq_true, decide_eq_true_eq] at hq
        obtain ⟨⟨_, f0⟩, f1⟩ := hq
        have hm0 : 0 ≤ pk * q.f := Int.mul_nonneg k0 f0
        have hm1 : pk * q.f ≤ 68719476736 * 1000 := Int.mul_le_mul k1 f1 f0 (by omega)
        have hw : wrap64 (pk * q.f) = pk * q.f := w64 (by omega) (by omega)
        have i0 : (0 : Int) ≤ (k : Int) := by omega
        have i1 : (k : Int) < (walls.length : Int) := by omega
        clear hx hsn hpk hpg
        rcases Bool.eq_false_or_eq_true (crossB a b q) with r | r
        · go_wp2_with fail
          refine wp_region_later (by kernel_rfl) (by kernel_rfl) ?_
          repeat (go_big_quiet_step ((go_at_call 96; exact later_of (r05CrossV a b q ha hb Hq.out r _))))
          refine wpQuiet_nil ?_
          rintro _ ⟨z, rfl⟩
          have hbz := b_then hbw z.below
          have x4 := cell_mono z.below e4
          obtain ⟨n0, n1, n2, n3, n4, n5, n6, n7, n8, n9⟩ := bx _ hbz
          go_wp2
          go_roundw
          case rel => exact ⟨k + 1, by omega, by go_num, by rw [Hsn.out]; simp [wallI, r], hbz⟩
          case measure => simp [intOf]; omega
        · go_wp2_with fail
          refine wp_region_later (by kernel_rfl) (by kernel_rfl) ?_
          repeat (go_big_quiet_step ((go_at_call 96; exact later_of (r05CrossV a b q ha hb Hq.out r _))))
          refine wpQuiet_nil ?_
          rintro _ ⟨z, rfl⟩
          have hbz := b_then hbw z.below
          go_wp2
          go_roundw
          case rel => exact ⟨k + 1, by omega, by go_num, by rw [Hsn.out]; simp [wallI, r], hbz⟩
          case measure => simp [intOf]; omega
      · obtain rfl : k = walls.length := by omega
        go_wp2
        go_ret
        exact ⟨ret_int (by rw [List.take_length]; simp only [atI, Hbase.out]), b_then hb1 hbw⟩
  · have hex1 : (ex == 4) = false := by simpa using hex
    have hbase : baseI ex a p b = p * 100 / M := by simp [baseI, hex, hM]
    have Hbase := Lib.hid hbase
    clear hbase
    generalize hpb : p * 100 / M = pb at *
    go_wp2_with fail
    have hpw0 : powB pb = true := by rw [← Hbase.out]; exact base_pow _ a b hp
    have Hpw0 := Lib.hid hpw0
    clear hpw0
    go_loopw [10, 11] (fun q i wr => ∃ k : Nat, k ≤ walls.length ∧ i = .int .i64 k ∧ q = .int .i64 ((walls.take k).foldl (wallI a b) pb) ∧ Below W1.heap.size W1 wr) (fun _ i _ => walls.length - (intOf i).toNat)
    case atStart => exact ⟨0, Nat.zero_le _, rfl, by rw [hpb]; rfl, hb2⟩
    case round =>
      obtain ⟨k, hk, rfl, rfl, hbw⟩ := hrel
      clear l0 l1 l2 l3 l4 l5 l6 l7 l8 l9
      obtain ⟨m0, m1, m2, m3, m4, m5, m6, m7, m8, m9⟩ := bx _ hbw; have Lm0 := Later.cell m0; have Lm1 := Later.cell m1; have Lm2 := Later.cell m2; have Lm3 := Later.cell m3; have Lm4 := Later.cell m4; have Lm5 := Later.cell m5; have Lm6 := Later.cell m6; have Lm7 := Later.cell m7; have Lm8 := Later.cell m8; have Lm9 := Later.cell m9
      by_cases hlt : k < walls.length
      · obtain ⟨q, hx⟩ : ∃ q, walls[k]? = some q := ⟨_, List.getElem?_eq_getElem hlt⟩
        obtain ⟨B, off, rfl, e0, e1, e2, e3, e4⟩ := hr2.wl (b_then hb1 hbw) hx
        have E0 := Later.cell e0
        have E1 := Later.cell e1
        have E2 := Later.cell e2
        have E3 := Later.cell e3
        have E4 := Later.cell e4
        have hq := hwl q (List.mem_of_getElem? hx)
        have hsn := walls_snoc (a := a) (b := b) pb hx
        have hpk := walls_pow (a := a) (b := b) (walls.take k) Hpw0.out (fun q hq => hwl q (List.mem_of_mem_take hq))
        generalize hpg : (walls.take k).foldl (wallI a b) pb = pk at hsn hpk ⊢
        have Hsn := Lib.hid hsn
        have Hq := Lib.hid hq
        obtain ⟨k0, k1⟩ := pow_is hpk
        simp only [wlB, Bool.and_eq_true, decide_eq_true_eq] at hq
        obtain ⟨⟨_, f0⟩, f1⟩ := hq
        have hm0 : 0 ≤ pk * q.f := Int.mul_nonneg k0 f0
        have hm1 : pk * q.f ≤ 68719476736 * 1000 := Int.mul_le_mul k1 f1 f0 (by omega)
        have hw : wrap64 (pk * q.f) = pk * q.f := w64 (by omega) (by omega)
        have i0 : (0 : Int) ≤ (k : Int) := by omega
        have i1 : (k : Int) < (walls.length : Int) := by omega
        clear hx hsn hpk hpg
        rcases Bool.eq_false_or_eq_true (crossB a b q) with r | r
        · go_wp2_with fail
          refine wp_region_later (by kernel_rfl) (by kernel_rfl) ?_
          repeat (go_big_quiet_step ((go_at_call 96; exact later_of (r05CrossV a b q ha hb Hq.out r _))))
          refine wpQuiet_nil ?_
          rintro _ ⟨z, rfl⟩
          have hbz := b_then hbw z.below
          have x4 := cell_mono z.below e4
          obtain ⟨n0, n1, n2, n3, n4, n5, n6, n7, n8, n9⟩ := bx _ hbz
          go_wp2
          go_roundw
          case rel => exact ⟨k + 1, by omega, by go_num, by rw [Hsn.out]; simp [wallI, r], hbz⟩
          case measure => simp [intOf]; omega
        · go_wp2_with fail
          refine wp_region_later (by kernel_rfl) (by kernel_rfl) ?_
          repeat (go_big_quiet_step ((go_at_call 96; exact later_of (r05CrossV a b q ha hb Hq.out r _))))
          refine wpQuiet_nil ?_
          rintro _ ⟨z, rfl⟩
          have hbz := b_then hbw z.below
          go_wp2
          go_roundw
          case rel => exact ⟨k + 1, by omega, by go_num, by rw [Hsn.out]; simp [wallI, r], hbz⟩
          case measure => simp [intOf]; omega
      · obtain rfl : k = walls.length := by omega
        go_wp2
        go_ret
        exact ⟨ret_int (by rw [List.take_length]; simp only [atI, Hbase.out]), b_then hb1 hbw⟩
end Go.Proofs.YtpbhoeaadnemhaaGreat
namespace Go.Proofs.YtpbhoeaadnemhaaGreat
open Go.RowKit
set_option linter.unusedVariables false
set_option linter.unusedSimpArgs false
set_option maxHeartbeats 4000000
set_option maxRecDepth 100000
theorem r05At (s : Site) (v : Value) (a : Pt) (p : Int) (b : Pt) (w : World) (hs : SiteV w v s) : Calls Tryz.prog 52 #[v, .agg #[.int .i64 (a).x, .int .i64 (a).y], .int .i64 p, .agg #[.int .i64 (b).x, .int .i64 (b).y]] w fun e w' => e = .returned (.tuple #[.int .i64 (atN s a p b), .int .i64 (atE s a p b)]) ∧ Below w.heap.size w w' := by
  have hu := Tryz.underlying26
  have hu2 := Tryz.underlying54
  have hs' := Lib.hid hs
  obtain ⟨v0, v1, v2, rfl, h0, h1, h2⟩ := hs
  obtain ⟨A0, c0, rfl, _⟩ := h0
  obtain ⟨A1, c1, rfl, _⟩ := h1
  obtain ⟨A2, c2, rfl, _⟩ := h2
  obtain ⟨W1, hW1⟩ : ∃ W : World, W = (((w.alloc (.cells #[.slice A0 s.nodes.length c0, .slice A1 s.powers.length c1, .slice A2 s.walls.length c2, .int .i64 s.ex, .int .i64 s.noise, .int .i64 s.thr] 26)).alloc (.cells #[.int .i64 (a).x, .int .i64 (a).y] 54)).alloc (.cells #[.int .i64 (b).x, .int .i64 (b).y] 54)) := ⟨_, rfl⟩; have hb1 : Below w.heap.size w W1 := (by rw [hW1]; (repeat (first | exact Below.refl _ _ | assumption | apply b_alloc | apply b_drewN | apply b_drew))); have q : ∀ wq : World, Below W1.heap.size W1 wq → wq.cell? ⟨w.heap.size, 0, none⟩ = some (.slice A0 s.nodes.length c0) ∧ wq.cell? ⟨w.heap.size, 1, none⟩ = some (.slice A1 s.powers.length c1) ∧ wq.cell? ⟨w.heap.size, 2, none⟩ = some (.slice A2 s.walls.length c2) ∧ wq.cell? ⟨w.heap.size, 3, none⟩ = some (.int .i64 s.ex) ∧ wq.cell? ⟨w.heap.size, 4, none⟩ = some (.int .i64 s.noise) ∧ wq.cell? ⟨w.heap.size, 5, none⟩ = some (.int .i64 s.thr) ∧ wq.cell? ⟨w.heap.size + 1, 0, none⟩ = some (.int .i64 (a).x) ∧ wq.cell? ⟨w.heap.size + 1, 1, none⟩ = some (.int .i64 (a).y) ∧ wq.cell? ⟨w.heap.size + 1 + 1, 0, none⟩ = some (.int .i64 (b).x) ∧ wq.cell? ⟨w.heap.size + 1 + 1, 1, none⟩ = some (.int .i64 (b).y) := (fun wq hwr => ⟨cell_mono hwr (by rw [hW1]; go_simp), cell_mono hwr (by rw [hW1]; go_simp), cell_mono hwr (by rw [hW1]; go_simp), cell_mono hwr (by rw [hW1]; go_simp), cell_mono hwr (by rw [hW1]; go_simp), cell_mono hwr (by rw [hW1]; go_simp), cell_mono hwr (by rw [hW1]; go_simp), cell_mono hwr (by rw [hW1]; go_simp), cell_mono hwr (by rw [hW1]; go_simp), cell_mono hwr (by rw [hW1]; go_simp)⟩); have HW := Lib.hid hW1; clear hW1
  go_enter Tryz.func52, Tryz.ntmps52
  go_wp2_with fail
  rw [← HW.out]
  refine (r05Check s _ _ (hs'.out.mono hb1)).mono ?_
  rintro e w2 ⟨rfl, hb2⟩
  obtain ⟨l0, l1, l2, l3, l4, l5, l6, l7, l8, l9⟩ := q _ hb2
  have hbz := b_then hb1 hb2
  rcases Bool.eq_false_or_eq_true (siteB s) with z | z
  · rw [z, okN_true]
    have Q := Lib.hid z
    clear z
    go_wp2_with fail
    refine (r05Point a _).mono ?_
    rintro e w3 ⟨rfl, hb3⟩
    have hb23 := b_then hb2 hb3
    obtain ⟨m0, m1, m2, m3, m4, m5, m6, m7, m8, m9⟩ := q _ hb23
    have hbz3 := b_then hb1 hb23
    rcases Bool.eq_false_or_eq_true (ptB a) with z1 | z1
    · rw [z1]
      go_wp2_with fail
      refine (r05Point b _).mono ?_
      rintro e w4 ⟨rfl, hb4⟩
      have hb24 := b_then hb23 hb4
      obtain ⟨n0, n1, n2, n3, n4, n5, n6, n7, n8, n9⟩ := q _ hb24
      have hbz4 := b_then hb1 hb24
      rcases Bool.eq_false_or_eq_true (ptB b) with z2 | z2
      · rw [z2]
        go_wp2_with fail
        refine (r04Is p _).mono ?_
        rintro e w5 ⟨rfl, rfl⟩
        rcases Bool.eq_false_or_eq_true (powB p) with z3 | z3
        · rw [z3]
          have he : atE s a p b = 0 := by simp [atE, Q.out, *]
          have hn : atN s a p b = atI s a p b := by simp [atN, Q.out, *]
          have He := Lib.hid he
          have Hn := Lib.hid hn
          clear he hn
          go_wp2_with fail
          refine (r05At0 s _ a p b _ (hs'.out.mono hbz4) Q.out z1 z2 z3).mono ?_
          rintro e w6 ⟨rfl, hb6⟩
          go_wp2
          go_ret2
          exact ⟨ret_two (by rw [Hn.out]; rfl) (by rw [He.out]; rfl), b_then hbz4 hb6⟩
        · rw [z3]
          have he : atE s a p b = 2 := by simp [atE, Q.out, *]
          have hn : atN s a p b = 0 := by simp [atN, Q.out, *]
          have He := Lib.hid he
          have Hn := Lib.hid hn
          clear he hn
          go_wp2
          go_ret2
          exact ⟨ret_two (by rw [Hn.out]; rfl) (by rw [He.out]; rfl), hbz4⟩
      · rw [z2]
        have he : atE s a p b = 2 := by simp [atE, Q.out, *]
        have hn : atN s a p b = 0 := by simp [atN, Q.out, *]
        have He := Lib.hid he
        have Hn := Lib.hid hn
        clear he hn
        go_wp2
        go_ret2
        exact ⟨ret_two (by rw [Hn.out]; rfl) (by rw [He.out]; rfl), hbz4⟩
    · rw [z1]
      have he : atE s a p b = 2 := by simp [atE, Q.out, *]
      have hn : atN s a p b = 0 := by simp [atN, Q.out, *]
      have He := Lib.hid he
      have Hn := Lib.hid hn
      clear he hn
      go_wp2
      go_ret2
      exact ⟨ret_two (by rw [Hn.out]; rfl) (by rw [He.out]; rfl), hbz3⟩
  · rw [z, okN_false]
    have he : atE s a p b = 1 := by simp [atE, z]
    have hn : atN s a p b = 0 := by simp [atN, z]
    have He := Lib.hid he
    have Hn := Lib.hid hn
    clear he hn
    go_wp2
    go_ret2
    exact ⟨ret_two (by rw [Hn.out]; rfl) (by rw [He.out]; rfl), hbz⟩
end Go.Proofs.YtpbhoeaadnemhaaGreat
