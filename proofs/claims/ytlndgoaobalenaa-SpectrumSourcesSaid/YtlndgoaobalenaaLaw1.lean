/- The law functions: sources. -/
import Derived.Test.YtlndgoaobalenaaAwake
import Derived.Test.YtlndgoaobalenaaSpc5
namespace Go.Proofs.Ytlndgoaobalenaa
open Go.RowKit
set_option linter.unusedVariables false
set_option linter.unusedSimpArgs false
set_option maxHeartbeats 4000000
set_option maxRecDepth 100000
theorem lSources (x : Spm) (s : Src) (v sv : Value) (qa qb qc f t : Int) (w : World) (hx : SpmV w v x) (h : SlV 1 KI w sv s.ch) :
    Calls Try.prog 3 #[v, .agg #[.int .i64 (s).pt.x, .int .i64 (s).pt.y, .int .i64 (s).pow, sv, .int .i64 (s).per, .int .i64 (s).frm, .int .i64 (s).to], .agg #[.int .i64 qa, .int .i64 qb, .int .i64 qc, .int .i64 f, .int .i64 t]] w fun e w' => e = .returned (.bool true) ∧ Below w.heap.size w w' := by
  have hu := Try.underlying25
  have hu2 := Try.underlying30
  have hu3 := Try.underlying32
  have hx' := Lib.hid hx
  have h' := Lib.hid h
  obtain ⟨v0, v1, rfl, h0, h1⟩ := hx
  obtain ⟨A, c, rfl, hc, hm, hr⟩ := h
  unfold big at hm
  obtain ⟨W1, hW1⟩ : ∃ W : World, W = (((w.alloc (.cells #[v0, v1] 25)).alloc (.cells #[.int .i64 (s).pt.x, .int .i64 (s).pt.y, .int .i64 (s).pow, .slice A s.ch.length c, .int .i64 (s).per, .int .i64 (s).frm, .int .i64 (s).to] 30)).alloc (.cells #[.int .i64 qa, .int .i64 qb, .int .i64 qc, .int .i64 f, .int .i64 t] 32)) := ⟨_, rfl⟩
  have hb1 : Below w.heap.size w W1 := by rw [hW1]; (repeat (first | exact Below.refl _ _ | assumption | apply b_alloc | apply b_drewN | apply b_drew))
  have p : ∀ wr : World, Below W1.heap.size W1 wr → wr.cell? ⟨w.heap.size, 0, none⟩ = some (v0) ∧ wr.cell? ⟨w.heap.size, 1, none⟩ = some (v1) ∧ wr.cell? ⟨w.heap.size + 1, 0, none⟩ = some (.int .i64 (s).pt.x) ∧ wr.cell? ⟨w.heap.size + 1, 1, none⟩ = some (.int .i64 (s).pt.y) ∧ wr.cell? ⟨w.heap.size + 1, 2, none⟩ = some (.int .i64 (s).pow) ∧ wr.cell? ⟨w.heap.size + 1, 3, none⟩ = some (.slice A s.ch.length c) ∧ wr.cell? ⟨w.heap.size + 1, 4, none⟩ = some (.int .i64 (s).per) ∧ wr.cell? ⟨w.heap.size + 1, 5, none⟩ = some (.int .i64 (s).frm) ∧ wr.cell? ⟨w.heap.size + 1, 6, none⟩ = some (.int .i64 (s).to) ∧ wr.cell? ⟨w.heap.size + 1 + 1, 0, none⟩ = some (.int .i64 qa) ∧ wr.cell? ⟨w.heap.size + 1 + 1, 1, none⟩ = some (.int .i64 qb) ∧ wr.cell? ⟨w.heap.size + 1 + 1, 2, none⟩ = some (.int .i64 qc) ∧ wr.cell? ⟨w.heap.size + 1 + 1, 3, none⟩ = some (.int .i64 f) ∧ wr.cell? ⟨w.heap.size + 1 + 1, 4, none⟩ = some (.int .i64 t) := fun wr hwr => ⟨cell_mono hwr (by rw [hW1]; go_simp), cell_mono hwr (by rw [hW1]; go_simp), cell_mono hwr (by rw [hW1]; go_simp), cell_mono hwr (by rw [hW1]; go_simp), cell_mono hwr (by rw [hW1]; go_simp), cell_mono hwr (by rw [hW1]; go_simp), cell_mono hwr (by rw [hW1]; go_simp), cell_mono hwr (by rw [hW1]; go_simp), cell_mono hwr (by rw [hW1]; go_simp), cell_mono hwr (by rw [hW1]; go_simp), cell_mono hwr (by rw [hW1]; go_simp), cell_mono hwr (by rw [hW1]; go_simp), cell_mono hwr (by rw [hW1]; go_simp), cell_mono hwr (by rw [hW1]; go_simp)⟩
  have HW := Lib.hid hW1
  clear hW1
  go_enter Try.func3, Try.ntmps3
  go_wp2_with fail
  rw [← HW.out]
  refine (awake _).mono ?_
  rintro e w2 ⟨rfl, hb2⟩
  obtain ⟨a0, a1, a2, a3, a4, a5, a6, a7, a8, a9, a10, a11, a12, a13⟩ := p _ hb2
  go_wp2_with fail
  refine (r06Few x _ _ (hx'.out.mono (b_then hb1 hb2))).mono ?_
  rintro e w3 ⟨rfl, hb3⟩
  have hb13 := b_then hb2 hb3
  have hbz := b_then hb1 hb13
  obtain ⟨b0, b1, b2, b3, b4, b5, b6, b7, b8, b9, b10, b11, b12, b13⟩ := p _ hb13
  have Lb0 := Later.cell b0
  have Lb1 := Later.cell b1
  have Lb2 := Later.cell b2
  have Lb3 := Later.cell b3
  have Lb4 := Later.cell b4
  have Lb5 := Later.cell b5
  have Lb6 := Later.cell b6
  have Lb7 := Later.cell b7
  have Lb8 := Later.cell b8
  have Lb9 := Later.cell b9
  have Lb10 := Later.cell b10
  have Lb11 := Later.cell b11
  have Lb12 := Later.cell b12
  have Lb13 := Later.cell b13
  rcases Bool.eq_false_or_eq_true (fewB x) with q | q
  · rw [q]
    rcases Bool.eq_false_or_eq_true (decide (20 < (s.ch.length : Int))) with r | r
    · go_wp2
      all_goals (go_ret; exact ⟨rfl, by assumption⟩)
    · go_wp2_with fail
      have hxL : ∀ z : Later w3, SpmV z.W (.agg #[v0, v1]) x := fun z => hx'.out.mono (b_then hbz z.below)
      have hsL : ∀ z : Later w3, SlV 1 KI z.W (.slice A s.ch.length c) s.ch := fun z => h'.out.mono KI.st (b_then hbz z.below)
      refine wp_region_later (by kernel_rfl) (by kernel_rfl) ?_
      repeat (go_big_quiet_step ((first
        | (go_at_call 12; exact later_of (sCheck x _ _ (hxL _)))
        | (go_at_call 13; exact later_of (r06Check x _ _ (hxL _)))
        | (go_at_call 14; exact later_of (sOn s _ f t _ (hsL _)))
        | (go_at_call 15; exact later_of (r06On s _ f t _ (hsL _)))
        | (go_at_call 16; exact later_of (sDuty s _ _ (hsL _)))
        | (go_at_call 17; exact later_of (r06Duty s _ _ (hsL _))))))
      refine wpQuiet_nil ?_
      rintro _ ⟨z, rfl⟩
      go_wp2
      go_ret
      exact ⟨rfl, b_then hbz z.below⟩
  · rw [q]
    go_wp2
    go_ret
    exact ⟨rfl, hbz⟩
end Go.Proofs.Ytlndgoaobalenaa
