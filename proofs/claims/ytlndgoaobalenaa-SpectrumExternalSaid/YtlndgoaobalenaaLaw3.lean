/- The law functions: external power. -/
import Derived.Test.YtlndgoaobalenaaAwake
import Derived.Test.YtlndgoaobalenaaSpcC
import Derived.Test.YtlndgoaobalenaaSpcA
import Derived.Test.YtlndgoaobalenaaSpcB
import Derived.Deep.RegionHeld3
namespace Go.Proofs.Ytlndgoaobalenaa
open Go.RowKit
set_option linter.unusedVariables false
set_option linter.unusedSimpArgs false
set_option maxHeartbeats 4000000
set_option maxRecDepth 100000
theorem lExternal (s : Site) (x : Spm) (v xv : Value) (qa qb qc f t : Int) (w : World) (hs : SiteV w v s) (hx : SpmV w xv x) :
    Calls Try.prog 6 #[v, xv, .agg #[.int .i64 qa, .int .i64 qb, .int .i64 qc, .int .i64 f, .int .i64 t]] w fun e w' => e = .returned (.bool true) ∧ Below w.heap.size w w' := by
  have hu := Try.underlying45
  have hu2 := Try.underlying25
  have hu3 := Try.underlying32
  have hs' := Lib.hid hs
  have hx' := Lib.hid hx
  obtain ⟨v0, v1, v2, rfl, h0, h1, h2⟩ := hs
  obtain ⟨A0, c0, rfl, _⟩ := h0
  obtain ⟨A1, c1, rfl, _⟩ := h1
  obtain ⟨A2, c2, rfl, _⟩ := h2
  obtain ⟨x0, x1, rfl, h3, h4⟩ := hx
  obtain ⟨A3, c3, rfl, _⟩ := h3
  obtain ⟨A4, c4, rfl, _⟩ := h4
  obtain ⟨W1, hW1⟩ : ∃ W : World, W = (((w.alloc (.cells #[.slice A0 s.nodes.length c0, .slice A1 s.powers.length c1, .slice A2 s.walls.length c2, .int .i64 s.ex, .int .i64 s.noise, .int .i64 s.thr] 45)).alloc (.cells #[.slice A3 x.srcs.length c3, .slice A4 x.fds.length c4] 25)).alloc (.cells #[.int .i64 qa, .int .i64 qb, .int .i64 qc, .int .i64 f, .int .i64 t] 32)) := ⟨_, rfl⟩
  have hb1 : Below w.heap.size w W1 := by rw [hW1]; (repeat (first | exact Below.refl _ _ | assumption | apply b_alloc | apply b_drewN | apply b_drew))
  have p : ∀ wr : World, Below W1.heap.size W1 wr → wr.cell? ⟨w.heap.size, 0, none⟩ = some (.slice A0 s.nodes.length c0) ∧ wr.cell? ⟨w.heap.size, 1, none⟩ = some (.slice A1 s.powers.length c1) ∧ wr.cell? ⟨w.heap.size, 2, none⟩ = some (.slice A2 s.walls.length c2) ∧ wr.cell? ⟨w.heap.size, 3, none⟩ = some (.int .i64 s.ex) ∧ wr.cell? ⟨w.heap.size, 4, none⟩ = some (.int .i64 s.noise) ∧ wr.cell? ⟨w.heap.size, 5, none⟩ = some (.int .i64 s.thr) ∧ wr.cell? ⟨w.heap.size + 1, 0, none⟩ = some (.slice A3 x.srcs.length c3) ∧ wr.cell? ⟨w.heap.size + 1, 1, none⟩ = some (.slice A4 x.fds.length c4) ∧ wr.cell? ⟨w.heap.size + 1 + 1, 0, none⟩ = some (.int .i64 qa) ∧ wr.cell? ⟨w.heap.size + 1 + 1, 1, none⟩ = some (.int .i64 qb) ∧ wr.cell? ⟨w.heap.size + 1 + 1, 2, none⟩ = some (.int .i64 qc) ∧ wr.cell? ⟨w.heap.size + 1 + 1, 3, none⟩ = some (.int .i64 f) ∧ wr.cell? ⟨w.heap.size + 1 + 1, 4, none⟩ = some (.int .i64 t) := fun wr hwr => ⟨cell_mono hwr (by rw [hW1]; go_simp), cell_mono hwr (by rw [hW1]; go_simp), cell_mono hwr (by rw [hW1]; go_simp), cell_mono hwr (by rw [hW1]; go_simp), cell_mono hwr (by rw [hW1]; go_simp), cell_mono hwr (by rw [hW1]; go_simp), cell_mono hwr (by rw [hW1]; go_simp), cell_mono hwr (by rw [hW1]; go_simp), cell_mono hwr (by rw [hW1]; go_simp), cell_mono hwr (by rw [hW1]; go_simp), cell_mono hwr (by rw [hW1]; go_simp), cell_mono hwr (by rw [hW1]; go_simp), cell_mono hwr (by rw [hW1]; go_simp)⟩
  have HW := Lib.hid hW1
  clear hW1
  go_enter Try.func6, Try.ntmps6
  go_wp2_with fail
  rw [← HW.out]
  refine (awake _).mono ?_
  rintro e w2 ⟨rfl, hb2⟩
  obtain ⟨la0, la1, la2, la3, la4, la5, la6, la7, la8, la9, la10, la11, la12⟩ := p _ hb2
  go_wp2_with fail
  refine (r05Few s _ _ (hs'.out.mono (b_then hb1 hb2))).mono ?_
  rintro e w3 ⟨rfl, hb3⟩
  have hb13 := b_then hb2 hb3
  have hbz := b_then hb1 hb13
  obtain ⟨lb0, lb1, lb2, lb3, lb4, lb5, lb6, lb7, lb8, lb9, lb10, lb11, lb12⟩ := p _ hb13
  rcases Bool.eq_false_or_eq_true (decide (s.nodes.length ≤ 40) && decide (s.powers.length ≤ 40) && decide (s.walls.length ≤ 40)) with q | q
  · rw [q]
    clear q
    go_wp2_with fail
    refine (r06Few x _ _ (hx'.out.mono hbz)).mono ?_
    rintro e w4 ⟨rfl, hb4⟩
    have hb14 := b_then hb13 hb4
    have hbz4 := b_then hb1 hb14
    obtain ⟨lc0, lc1, lc2, lc3, lc4, lc5, lc6, lc7, lc8, lc9, lc10, lc11, lc12⟩ := p _ hb14
    rcases Bool.eq_false_or_eq_true (fewB x) with q | q
    · rw [q]
      clear q
      go_wp2_with fail
      refine (sExternal s x _ _ qa qc f t _ (hs'.out.mono hbz4) (hx'.out.mono hbz4)).mono ?_
      rintro e w5 ⟨rfl, hb5⟩
      have hb15 := b_then hb14 hb5
      have hbz5 := b_then hb1 hb15
      obtain ⟨ld0, ld1, ld2, ld3, ld4, ld5, ld6, ld7, ld8, ld9, ld10, ld11, ld12⟩ := p _ hb15
      go_wp2_with fail
      refine (r06External s x _ _ qa qc f t _ (hs'.out.mono hbz5) (hx'.out.mono hbz5)).mono ?_
      rintro e w6 ⟨rfl, hb6⟩
      have hb16 := b_then hb15 hb6
      have hbz6 := b_then hb1 hb16
      obtain ⟨le0, le1, le2, le3, le4, le5, le6, le7, le8, le9, le10, le11, le12⟩ := p _ hb16
      generalize extN s x qa qc f t = N
      generalize extE s x qa qc f t = E
      have hxL : ∀ w', Below w6.heap.size w6 w' → SpmV w' (.agg #[.slice A3 x.srcs.length c3, .slice A4 x.fds.length c4]) x := fun w' h => hx'.out.mono (b_then hbz6 h)
      go_wp2_with fail
      go_region_held3 (fun w' => Below w6.heap.size w6 w' ∧ w'.cell? ⟨w.heap.size + 1, 0, none⟩ = some (.slice A3 x.srcs.length c3) ∧ w'.cell? ⟨w.heap.size + 1, 1, none⟩ = some (.slice A4 x.fds.length c4) ∧ w'.cell? ⟨w.heap.size + 1 + 1, 3, none⟩ = some (.int .i64 f) ∧ w'.cell? ⟨w.heap.size + 1 + 1, 4, none⟩ = some (.int .i64 t))
        (first
          | exact ⟨b_drew (Below.refl _ _), le6, le7, le11, le12⟩
          | exact ⟨b_then (And.left (by assumption)) hbq, cell_mono hbq (And.left (And.right (by assumption))), cell_mono hbq (And.left (And.right (And.right (by assumption)))), cell_mono hbq (And.left (And.right (And.right (And.right (by assumption))))), cell_mono hbq (And.right (And.right (And.right (And.right (by assumption)))))⟩)
        (first
          | (go_at_call 21; refine (sClear x _ f t _ (hxL _ (And.left (by assumption)))).mono ?_; rintro e w7 ⟨u, rfl, hsu, hbq⟩)
          | (go_at_call 25; refine (r06Clear x _ f t _ (hxL _ (And.left (by assumption)))).mono ?_; rintro e w8 ⟨u2, rfl, hsu2, hbq⟩)
          | (go_at_call 24; refine (xEqual _ _ _ _ _ (hsu.mono KI.st (by assumption)) hsu2).mono ?_; rintro e w9 ⟨rfl, hbq⟩))
      go_wp2
      go_ret
      exact ⟨rfl, b_then hbz6 (And.left (by assumption))⟩
    · rw [q]
      go_wp2
      go_ret
      exact ⟨rfl, hbz4⟩
  · rw [q]
    go_wp2
    go_ret
    exact ⟨rfl, hbz⟩
end Go.Proofs.Ytlndgoaobalenaa
