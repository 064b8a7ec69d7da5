/- The chapter's example. -/
import Derived.Test.YtlndgoaobalenaaIter2
import Derived.Test.YtlndgoaobalenaaSpc7
namespace Go.Proofs.Ytlndgoaobalenaa
open Go.RowKit
set_option linter.unusedVariables false
set_option linter.unusedSimpArgs false
set_option maxHeartbeats 4000000
set_option maxRecDepth 100000
def exS : Src := ⟨⟨0, 0⟩, 0, [3], 100, 20, 30⟩
def exX : Spm := ⟨[exS], [⟨-1, -1, -1, 0, 50, 500⟩, ⟨1, -1, -1, 10, 20, 200⟩]⟩
theorem sl_ch (w W : World) (h : W.cell? ⟨w.heap.size, 0, none⟩ = some (.int .i64 3)) : SlV 1 KI W (.slice (some ⟨w.heap.size, 0, none⟩) 1 1) [3] := by
  refine ⟨_, _, rfl, by decide, by unfold big; decide, fun _ => ⟨_, _, rfl, fun i x hx => ?_⟩⟩
  rcases i with _ | i
  · obtain rfl : 3 = x := by simpa using hx
    exact ⟨_, rfl, fun j u hu => by rcases j with _ | j <;> simp at hu; subst hu; exact h⟩
  · simp at hx
theorem exReads (w : World) : SpmV ((((((w.alloc (.cells #[.int .i64 3] 3)).alloc (.cells #[.int .i64 0, .int .i64 0, .int .i64 0, .slice (some ⟨w.heap.size, 0, none⟩) 1 1, .int .i64 100, .int .i64 20, .int .i64 30] 30)).alloc (.cells #[.int .i64 0, .int .i64 0, .int .i64 0, .slice (some ⟨w.heap.size, 0, none⟩) 1 1, .int .i64 100, .int .i64 20, .int .i64 30] 30)).alloc (.cells #[.int .i64 (-1), .int .i64 (-1), .int .i64 (-1), .int .i64 0, .int .i64 50, .int .i64 500, .int .i64 1, .int .i64 (-1), .int .i64 (-1), .int .i64 10, .int .i64 20, .int .i64 200] 47)).alloc (.cells #[.slice (some ⟨w.heap.size + 1 + 1, 0, none⟩) 1 1, .slice (some ⟨w.heap.size + 1 + 1 + 1, 0, none⟩) 2 2] 25)).alloc (.cells #[.int .i64 5, .int .i64 500, .int .i64 10, .int .i64 200, .int .i64 20, .int .i64 500, .int .i64 50, .int .i64 1000] 61)) (.agg #[.slice (some ⟨w.heap.size + 1 + 1, 0, none⟩) 1 1, .slice (some ⟨w.heap.size + 1 + 1 + 1, 0, none⟩) 2 2]) exX := by
  refine ⟨_, _, rfl, ⟨_, _, rfl, by decide, by unfold big; decide, fun _ => ⟨_, _, rfl, fun i x hx => ?_⟩⟩, ⟨_, _, rfl, by decide, by unfold big; decide, fun _ => ⟨_, _, rfl, fun i x hx => ?_⟩⟩⟩
  · rcases i with _ | i
    · obtain rfl : exS = x := by simpa [exX] using hx
      refine ⟨_, ⟨_, rfl, sl_ch w _ (by go_simp)⟩, fun j u hu => ?_⟩
      rcases j with _ | _ | _ | _ | _ | _ | _ | j <;> simp at hu <;> subst hu <;> go_simp <;> rfl
    · simp [exX] at hx
  · rcases i with _ | _ | i
    · obtain rfl : (⟨-1, -1, -1, 0, 50, 500⟩ : Fd) = x := by simpa [exX] using hx
      refine ⟨_, rfl, fun j u hu => ?_⟩
      rcases j with _ | _ | _ | _ | _ | _ | j <;> simp at hu <;> subst hu <;> go_simp
    · obtain rfl : (⟨1, -1, -1, 10, 20, 200⟩ : Fd) = x := by simpa [exX] using hx
      refine ⟨_, rfl, fun j u hu => ?_⟩
      rcases j with _ | _ | _ | _ | _ | _ | j <;> simp at hu <;> subst hu <;> go_simp
    · simp [exX] at hx
structure ExW (n : Nat) (W : World) : Prop where
  s0 : W.cell? ⟨n + 1, 0, none⟩ = some (.int .i64 0)
  s1 : W.cell? ⟨n + 1, 1, none⟩ = some (.int .i64 0)
  s2 : W.cell? ⟨n + 1, 2, none⟩ = some (.int .i64 0)
  s3 : W.cell? ⟨n + 1, 3, none⟩ = some (.slice (some ⟨n, 0, none⟩) 1 1)
  s4 : W.cell? ⟨n + 1, 4, none⟩ = some (.int .i64 100)
  s5 : W.cell? ⟨n + 1, 5, none⟩ = some (.int .i64 20)
  s6 : W.cell? ⟨n + 1, 6, none⟩ = some (.int .i64 30)
  x0 : W.cell? ⟨n + 1 + 1 + 1 + 1, 0, none⟩ = some (.slice (some ⟨n + 1 + 1, 0, none⟩) 1 1)
  x1 : W.cell? ⟨n + 1 + 1 + 1 + 1, 1, none⟩ = some (.slice (some ⟨n + 1 + 1 + 1, 0, none⟩) 2 2)
  t0 : W.cell? ⟨n + 1 + 1 + 1 + 1 + 1, 0, none⟩ = some (.int .i64 5)
  t1 : W.cell? ⟨n + 1 + 1 + 1 + 1 + 1, 1, none⟩ = some (.int .i64 500)
  t2 : W.cell? ⟨n + 1 + 1 + 1 + 1 + 1, 2, none⟩ = some (.int .i64 10)
  t3 : W.cell? ⟨n + 1 + 1 + 1 + 1 + 1, 3, none⟩ = some (.int .i64 200)
  t4 : W.cell? ⟨n + 1 + 1 + 1 + 1 + 1, 4, none⟩ = some (.int .i64 20)
  t5 : W.cell? ⟨n + 1 + 1 + 1 + 1 + 1, 5, none⟩ = some (.int .i64 500)
  t6 : W.cell? ⟨n + 1 + 1 + 1 + 1 + 1, 6, none⟩ = some (.int .i64 50)
  t7 : W.cell? ⟨n + 1 + 1 + 1 + 1 + 1, 7, none⟩ = some (.int .i64 1000)
  c0 : W.cell? ⟨n, 0, none⟩ = some (.int .i64 3)
  r : SpmV W (.agg #[.slice (some ⟨n + 1 + 1, 0, none⟩) 1 1, .slice (some ⟨n + 1 + 1 + 1, 0, none⟩) 2 2]) exX
theorem ExW.mono {n : Nat} {W W1 : World} (h : ExW n W) (hb : Below W.heap.size W W1) : ExW n W1 :=
  ⟨cell_mono hb h.s0, cell_mono hb h.s1, cell_mono hb h.s2, cell_mono hb h.s3, cell_mono hb h.s4, cell_mono hb h.s5, cell_mono hb h.s6, cell_mono hb h.x0, cell_mono hb h.x1, cell_mono hb h.t0, cell_mono hb h.t1, cell_mono hb h.t2, cell_mono hb h.t3, cell_mono hb h.t4, cell_mono hb h.t5, cell_mono hb h.t6, cell_mono hb h.t7, cell_mono hb h.c0, h.r.mono hb⟩
theorem ExW.new (w : World) : ExW w.heap.size ((((((w.alloc (.cells #[.int .i64 3] 3)).alloc (.cells #[.int .i64 0, .int .i64 0, .int .i64 0, .slice (some ⟨w.heap.size, 0, none⟩) 1 1, .int .i64 100, .int .i64 20, .int .i64 30] 30)).alloc (.cells #[.int .i64 0, .int .i64 0, .int .i64 0, .slice (some ⟨w.heap.size, 0, none⟩) 1 1, .int .i64 100, .int .i64 20, .int .i64 30] 30)).alloc (.cells #[.int .i64 (-1), .int .i64 (-1), .int .i64 (-1), .int .i64 0, .int .i64 50, .int .i64 500, .int .i64 1, .int .i64 (-1), .int .i64 (-1), .int .i64 10, .int .i64 20, .int .i64 200] 47)).alloc (.cells #[.slice (some ⟨w.heap.size + 1 + 1, 0, none⟩) 1 1, .slice (some ⟨w.heap.size + 1 + 1 + 1, 0, none⟩) 2 2] 25)).alloc (.cells #[.int .i64 5, .int .i64 500, .int .i64 10, .int .i64 200, .int .i64 20, .int .i64 500, .int .i64 50, .int .i64 1000] 61)) :=
  ⟨by go_simp, by go_simp, by go_simp, by go_simp, by go_simp, by go_simp, by go_simp, by go_simp, by go_simp, by go_simp, by go_simp, by go_simp, by go_simp, by go_simp, by go_simp, by go_simp, by go_simp, by go_simp, exReads w⟩
theorem exFac : facN exX 1 0 3 5 = 500 ∧ facN exX 1 0 3 10 = 200 ∧ facN exX 1 0 3 20 = 500 ∧ facN exX 1 0 3 50 = 1000 ∧ facE exX 1 0 3 5 = 0 ∧ facE exX 1 0 3 10 = 0 ∧ facE exX 1 0 3 20 = 0 ∧ facE exX 1 0 3 50 = 0 := by decide +kernel
theorem exRest : spmB exX = true ∧ isOn exS 95 121 = true ∧ isOn exS 30 120 = false ∧ dutyI exS = 100 ∧ (clearL exX 0 21).length = 15 := by decide +kernel
theorem awake (w : World) : Calls Try.prog 10 #[] w fun e w' => e = .returned (.bool true) ∧ Below w.heap.size w w' := by
  have hu := Try.underlying30
  have hu2 := Try.underlying47
  have hu3 := Try.underlying25
  have hX := ExW.new w
  have hB : Below w.heap.size w ((((((w.alloc (.cells #[.int .i64 3] 3)).alloc (.cells #[.int .i64 0, .int .i64 0, .int .i64 0, .slice (some ⟨w.heap.size, 0, none⟩) 1 1, .int .i64 100, .int .i64 20, .int .i64 30] 30)).alloc (.cells #[.int .i64 0, .int .i64 0, .int .i64 0, .slice (some ⟨w.heap.size, 0, none⟩) 1 1, .int .i64 100, .int .i64 20, .int .i64 30] 30)).alloc (.cells #[.int .i64 (-1), .int .i64 (-1), .int .i64 (-1), .int .i64 0, .int .i64 50, .int .i64 500, .int .i64 1, .int .i64 (-1), .int .i64 (-1), .int .i64 10, .int .i64 20, .int .i64 200] 47)).alloc (.cells #[.slice (some ⟨w.heap.size + 1 + 1, 0, none⟩) 1 1, .slice (some ⟨w.heap.size + 1 + 1 + 1, 0, none⟩) 2 2] 25)).alloc (.cells #[.int .i64 5, .int .i64 500, .int .i64 10, .int .i64 200, .int .i64 20, .int .i64 500, .int .i64 50, .int .i64 1000] 61)) := by (repeat (first | exact Below.refl _ _ | assumption | apply b_alloc | apply b_drewN | apply b_drew))
  go_enter Try.func10, Try.ntmps10
  go_wp2_with fail
  generalize hW : (((((w.alloc (.cells #[.int .i64 3] 3)).alloc (.cells #[.int .i64 0, .int .i64 0, .int .i64 0, .slice (some ⟨w.heap.size, 0, none⟩) 1 1, .int .i64 100, .int .i64 20, .int .i64 30] 30)).alloc (.cells #[.int .i64 0, .int .i64 0, .int .i64 0, .slice (some ⟨w.heap.size, 0, none⟩) 1 1, .int .i64 100, .int .i64 20, .int .i64 30] 30)).alloc (.cells #[.int .i64 (-1), .int .i64 (-1), .int .i64 (-1), .int .i64 0, .int .i64 50, .int .i64 500, .int .i64 1, .int .i64 (-1), .int .i64 (-1), .int .i64 10, .int .i64 20, .int .i64 200] 47)).alloc (.cells #[.slice (some ⟨w.heap.size + 1 + 1, 0, none⟩) 1 1, .slice (some ⟨w.heap.size + 1 + 1 + 1, 0, none⟩) 2 2] 25)).alloc (.cells #[.int .i64 5, .int .i64 500, .int .i64 10, .int .i64 200, .int .i64 20, .int .i64 500, .int .i64 50, .int .i64 1000] 61) = W at *
  clear hW
  go_loopw [21] (fun i wr => ∃ k : Nat, k ≤ 4 ∧ i = .int .i64 k ∧ Below W.heap.size W wr) (fun i _ => 4 - (intOf i).toNat)
  case atStart => exact ⟨0, by omega, rfl, Below.refl _ _⟩
  case round =>
    obtain ⟨k, hk, rfl, hbw⟩ := hrel
    have hY := hX.mono hbw
    obtain ⟨s0, s1, s2, s3, s4, s5, s6, x0, x1, t0, t1, t2, t3, t4, t5, t6, t7, c0, hr⟩ := hX.mono hbw
    by_cases hlt : k < 4
    · have hk4 : k = 0 ∨ k = 1 ∨ k = 2 ∨ k = 3 := by omega
      rcases hk4 with rfl | rfl | rfl | rfl
      · have hbA : Below wr.heap.size wr (wr.alloc (.cells #[.int .i64 5, .int .i64 500] 61)) := by (repeat (first | exact Below.refl _ _ | assumption | apply b_alloc | apply b_drewN | apply b_drew))
        have hZ := hY.mono hbA
        obtain ⟨s0', s1', s2', s3', s4', s5', s6', x0', x1', t0', t1', t2', t3', t4', t5', t6', t7', c0', hr'⟩ := hY.mono hbA
        go_wp2_with fail
        refine (sFactor exX _ 1 0 3 5 _ hr').mono ?_
        rintro e w2 ⟨rfl, hb2⟩
        rw [exFac.1, exFac.2.2.2.2.1]
        have n1 := box_at hb2 rfl 1 rfl
        go_wp2_with fail
        go_roundw
        · exact ⟨0 + 1, by omega, by simp, b_then hbw (b_then hbA hb2)⟩
        · simp [intOf]
      · have hbA : Below wr.heap.size wr (wr.alloc (.cells #[.int .i64 10, .int .i64 200] 61)) := by (repeat (first | exact Below.refl _ _ | assumption | apply b_alloc | apply b_drewN | apply b_drew))
        have hZ := hY.mono hbA
        obtain ⟨s0', s1', s2', s3', s4', s5', s6', x0', x1', t0', t1', t2', t3', t4', t5', t6', t7', c0', hr'⟩ := hY.mono hbA
        go_wp2_with fail
        refine (sFactor exX _ 1 0 3 10 _ hr').mono ?_
        rintro e w2 ⟨rfl, hb2⟩
        rw [exFac.2.1, exFac.2.2.2.2.2.1]
        have n1 := box_at hb2 rfl 1 rfl
        go_wp2_with fail
        go_roundw
        · exact ⟨1 + 1, by omega, by simp, b_then hbw (b_then hbA hb2)⟩
        · simp [intOf]
      · have hbA : Below wr.heap.size wr (wr.alloc (.cells #[.int .i64 20, .int .i64 500] 61)) := by (repeat (first | exact Below.refl _ _ | assumption | apply b_alloc | apply b_drewN | apply b_drew))
        have hZ := hY.mono hbA
        obtain ⟨s0', s1', s2', s3', s4', s5', s6', x0', x1', t0', t1', t2', t3', t4', t5', t6', t7', c0', hr'⟩ := hY.mono hbA
        go_wp2_with fail
        refine (sFactor exX _ 1 0 3 20 _ hr').mono ?_
        rintro e w2 ⟨rfl, hb2⟩
        rw [exFac.2.2.1, exFac.2.2.2.2.2.2.1]
        have n1 := box_at hb2 rfl 1 rfl
        go_wp2_with fail
        go_roundw
        · exact ⟨2 + 1, by omega, by simp, b_then hbw (b_then hbA hb2)⟩
        · simp [intOf]
      · have hbA : Below wr.heap.size wr (wr.alloc (.cells #[.int .i64 50, .int .i64 1000] 61)) := by (repeat (first | exact Below.refl _ _ | assumption | apply b_alloc | apply b_drewN | apply b_drew))
        have hZ := hY.mono hbA
        obtain ⟨s0', s1', s2', s3', s4', s5', s6', x0', x1', t0', t1', t2', t3', t4', t5', t6', t7', c0', hr'⟩ := hY.mono hbA
        go_wp2_with fail
        refine (sFactor exX _ 1 0 3 50 _ hr').mono ?_
        rintro e w2 ⟨rfl, hb2⟩
        rw [exFac.2.2.2.1, exFac.2.2.2.2.2.2.2]
        have n1 := box_at hb2 rfl 1 rfl
        go_wp2_with fail
        go_roundw
        · exact ⟨3 + 1, by omega, by simp, b_then hbw (b_then hbA hb2)⟩
        · simp [intOf]
    · obtain rfl : k = 4 := by omega
      go_wp2_with fail
      refine (sCheck exX _ _ hr).mono ?_
      rintro e w2 ⟨rfl, hb2⟩
      rw [exRest.1, okN_true]
      have Z2 := hY.mono hb2
      obtain ⟨s0', s1', s2', s3', s4', s5', s6', x0', x1', t0', t1', t2', t3', t4', t5', t6', t7', c0', hr'⟩ := hY.mono hb2
      go_wp2_with fail
      refine (sOn exS _ 95 121 _ (sl_ch w _ (Z2.c0))).mono ?_
      rintro e w3 ⟨rfl, hb3⟩
      rw [exRest.2.1]
      have Z3 := (Z2).mono hb3
      obtain ⟨s0', s1', s2', s3', s4', s5', s6', x0', x1', t0', t1', t2', t3', t4', t5', t6', t7', c0', hr'⟩ := (Z2).mono hb3
      go_wp2_with fail
      refine (sOn exS _ 30 120 _ (sl_ch w _ (Z3.c0))).mono ?_
      rintro e w4 ⟨rfl, hb4⟩
      rw [exRest.2.2.1]
      have Z4 := (Z3).mono hb4
      obtain ⟨s0', s1', s2', s3', s4', s5', s6', x0', x1', t0', t1', t2', t3', t4', t5', t6', t7', c0', hr'⟩ := (Z3).mono hb4
      go_wp2_with fail
      refine (sDuty exS _ _ (sl_ch w _ (Z4.c0))).mono ?_
      rintro e w5 ⟨rfl, hb5⟩
      rw [exRest.2.2.2.1]
      have Z5 := (Z4).mono hb5
      obtain ⟨s0', s1', s2', s3', s4', s5', s6', x0', x1', t0', t1', t2', t3', t4', t5', t6', t7', c0', hr'⟩ := (Z4).mono hb5
      go_wp2_with fail
      refine (sClear exX _ 0 21 _ Z5.r).mono ?_
      rintro e w6 ⟨u, rfl, hs, hb6⟩
      obtain ⟨A, c, rfl, hc⟩ := hs
      rw [exRest.2.2.2.2] at *
      go_wp2_with fail
      go_ret
      exact ⟨rfl, b_then hB (b_then hbw (b_then hb2 (b_then hb3 (b_then hb4 (b_then hb5 hb6)))))⟩
end Go.Proofs.Ytlndgoaobalenaa
