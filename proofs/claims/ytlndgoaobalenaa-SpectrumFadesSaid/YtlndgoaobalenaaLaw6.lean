/- The law functions: a further fading. -/
import Derived.Test.YtlndgoaobalenaaAwake
import Derived.Test.YtlndgoaobalenaaSpcF
import Derived.Test.YtlndgoaobalenaaSpec8
import Derived.Test.YtlndgoaobalenaaLaw8
import Derived.Test.YtlndgoaobalenaaCln
import Derived.Test.YtlndgoaobalenaaOpen5
import Derived.Deep.RegionHeld3
import Derived.Deep.DeepCutAuto
namespace Go.Proofs.Ytlndgoaobalenaa
open Go.RowKit
set_option linter.unusedVariables false
set_option linter.unusedSimpArgs false
set_option maxHeartbeats 4000000
set_option maxRecDepth 100000
theorem lFades (s : Site) (x : Spm) (m : Mr) (v xv mv : Value) (w : World) (hs : SiteV w v s) (hx : SpmV w xv x) (hmv : SlV 1 KI w mv m.s.ch) :
    Calls Try.prog 9 #[v, xv, .agg (moreV m mv).toArray] w fun e w' => e = .returned (.bool true) ∧ Below w.heap.size w w' := by
  have hu := Try.underlying45
  have hu2 := Try.underlying25
  have hu3 := Try.underlying32
  have hu4 := Try.underlying30
  have hu5 := Try.underlying47
  have hu6 := Try.underlying49
  have hu7 := Try.underlying27
  have hs' := Lib.hid hs
  obtain ⟨v0, v1, v2, rfl, h0, h1, h2⟩ := hs
  obtain ⟨A0, c0, rfl, hc0, hm0, hr0⟩ := h0
  obtain ⟨A1, c1, rfl, hc1, hm1, hr1⟩ := h1
  obtain ⟨A2, c2, rfl, hc2, hm2, hr2⟩ := h2
  unfold big at hm0 hm1 hm2
  have hx' := Lib.hid hx
  obtain ⟨x0, x1, rfl, h3, h4⟩ := hx
  have H3 := Lib.hid h3
  have H4 := Lib.hid h4
  obtain ⟨A3, c3, rfl, hc3, hm3, hr3⟩ := h3
  obtain ⟨A4, c4, rfl, hc4, hm4, hr4⟩ := h4
  unfold big at hm3 hm4
  obtain ⟨⟨qa, qb, qc, f, t⟩, longer, ⟨⟨spx, spy⟩, spow, sch, sper, sfrm, sto⟩, ⟨ffrm, fto, fch, ffirst, ftil, ffac⟩⟩ := m
  have hmv' := Lib.hid hmv
  obtain ⟨A5, c5, rfl, hc5, hm5, hr5⟩ := hmv
  dsimp only at *
  unfold big at hm5
  simp only [moreV]
  obtain ⟨W1, hW1⟩ : ∃ W : World, W = (((w.alloc (.cells #[.slice A0 s.nodes.length c0, .slice A1 s.powers.length c1, .slice A2 s.walls.length c2, .int .i64 s.ex, .int .i64 s.noise, .int .i64 s.thr] 45)).alloc (.cells #[.slice A3 x.srcs.length c3, .slice A4 x.fds.length c4] 25)).alloc (.cells #[.int .i64 qa, .int .i64 qb, .int .i64 qc, .int .i64 f, .int .i64 t, .int .i64 longer, .int .i64 spx, .int .i64 spy, .int .i64 spow, .slice A5 sch.length c5, .int .i64 sper, .int .i64 sfrm, .int .i64 sto, .int .i64 ffrm, .int .i64 fto, .int .i64 fch, .int .i64 ffirst, .int .i64 ftil, .int .i64 ffac] 49)) := ⟨_, rfl⟩
  have hb1 : Below w.heap.size w W1 := by rw [hW1]; (repeat (first | exact Below.refl _ _ | assumption | apply b_alloc | apply b_drewN | apply b_drew))
  have q : ∀ wr : World, Below W1.heap.size W1 wr → wr.cell? ⟨w.heap.size, 0, none⟩ = some (.slice A0 s.nodes.length c0) ∧ wr.cell? ⟨w.heap.size, 1, none⟩ = some (.slice A1 s.powers.length c1) ∧ wr.cell? ⟨w.heap.size, 2, none⟩ = some (.slice A2 s.walls.length c2) ∧ wr.cell? ⟨w.heap.size, 3, none⟩ = some (.int .i64 s.ex) ∧ wr.cell? ⟨w.heap.size, 4, none⟩ = some (.int .i64 s.noise) ∧ wr.cell? ⟨w.heap.size, 5, none⟩ = some (.int .i64 s.thr) ∧ wr.cell? ⟨w.heap.size + 1, 0, none⟩ = some (.slice A3 x.srcs.length c3) ∧ wr.cell? ⟨w.heap.size + 1, 1, none⟩ = some (.slice A4 x.fds.length c4) ∧ wr.cell? ⟨w.heap.size + 1 + 1, 0, none⟩ = some (.int .i64 qa) ∧ wr.cell? ⟨w.heap.size + 1 + 1, 1, none⟩ = some (.int .i64 qb) ∧ wr.cell? ⟨w.heap.size + 1 + 1, 2, none⟩ = some (.int .i64 qc) ∧ wr.cell? ⟨w.heap.size + 1 + 1, 3, none⟩ = some (.int .i64 f) ∧ wr.cell? ⟨w.heap.size + 1 + 1, 4, none⟩ = some (.int .i64 t) ∧ wr.cell? ⟨w.heap.size + 1 + 1, 5, none⟩ = some (.int .i64 longer) ∧ wr.cell? ⟨w.heap.size + 1 + 1, 6, none⟩ = some (.int .i64 spx) ∧ wr.cell? ⟨w.heap.size + 1 + 1, 7, none⟩ = some (.int .i64 spy) ∧ wr.cell? ⟨w.heap.size + 1 + 1, 8, none⟩ = some (.int .i64 spow) ∧ wr.cell? ⟨w.heap.size + 1 + 1, 9, none⟩ = some (.slice A5 sch.length c5) ∧ wr.cell? ⟨w.heap.size + 1 + 1, 10, none⟩ = some (.int .i64 sper) ∧ wr.cell? ⟨w.heap.size + 1 + 1, 11, none⟩ = some (.int .i64 sfrm) ∧ wr.cell? ⟨w.heap.size + 1 + 1, 12, none⟩ = some (.int .i64 sto) ∧ wr.cell? ⟨w.heap.size + 1 + 1, 13, none⟩ = some (.int .i64 ffrm) ∧ wr.cell? ⟨w.heap.size + 1 + 1, 14, none⟩ = some (.int .i64 fto) ∧ wr.cell? ⟨w.heap.size + 1 + 1, 15, none⟩ = some (.int .i64 fch) ∧ wr.cell? ⟨w.heap.size + 1 + 1, 16, none⟩ = some (.int .i64 ffirst) ∧ wr.cell? ⟨w.heap.size + 1 + 1, 17, none⟩ = some (.int .i64 ftil) ∧ wr.cell? ⟨w.heap.size + 1 + 1, 18, none⟩ = some (.int .i64 ffac) := fun wr hwr => ⟨cell_mono hwr (by rw [hW1]; go_simp), cell_mono hwr (by rw [hW1]; go_simp), cell_mono hwr (by rw [hW1]; go_simp), cell_mono hwr (by rw [hW1]; go_simp), cell_mono hwr (by rw [hW1]; go_simp), cell_mono hwr (by rw [hW1]; go_simp), cell_mono hwr (by rw [hW1]; go_simp), cell_mono hwr (by rw [hW1]; go_simp), cell_mono hwr (by rw [hW1]; go_simp), cell_mono hwr (by rw [hW1]; go_simp), cell_mono hwr (by rw [hW1]; go_simp), cell_mono hwr (by rw [hW1]; go_simp), cell_mono hwr (by rw [hW1]; go_simp), cell_mono hwr (by rw [hW1]; go_simp), cell_mono hwr (by rw [hW1]; go_simp), cell_mono hwr (by rw [hW1]; go_simp), cell_mono hwr (by rw [hW1]; go_simp), cell_mono hwr (by rw [hW1]; go_simp), cell_mono hwr (by rw [hW1]; go_simp), cell_mono hwr (by rw [hW1]; go_simp), cell_mono hwr (by rw [hW1]; go_simp), cell_mono hwr (by rw [hW1]; go_simp), cell_mono hwr (by rw [hW1]; go_simp), cell_mono hwr (by rw [hW1]; go_simp), cell_mono hwr (by rw [hW1]; go_simp), cell_mono hwr (by rw [hW1]; go_simp), cell_mono hwr (by rw [hW1]; go_simp)⟩
  have HW := Lib.hid hW1
  clear hW1
  go_enter Try.func9, Try.ntmps9
  go_wp2_with fail
  rw [← HW.out]
  have hbA1 : Below W1.heap.size W1 W1 := Below.refl _ _
  refine (awake _).mono ?_
  rintro e w2 ⟨rfl, hbA2⟩
  have hbz2 := b_then hb1 hbA2
  obtain ⟨l20, l21, l22, l23, l24, l25, l26, l27, l28, l29, l210, l211, l212, l213, l214, l215, l216, l217, l218, l219, l220, l221, l222, l223, l224, l225, l226⟩ := q _ hbA2
  go_wp2_with fail
  refine (r05Few s _ _ (hs'.out.mono hbz2)).mono ?_
  rintro e w3 ⟨rfl, hb3⟩
  have hbA3 := b_then hbA2 hb3
  have hbz3 := b_then hb1 hbA3
  try clear l20 l21 l22 l23 l24 l25 l26 l27 l28 l29 l210 l211 l212 l213 l214 l215 l216 l217 l218 l219 l220 l221 l222 l223 l224 l225 l226
  obtain ⟨l30, l31, l32, l33, l34, l35, l36, l37, l38, l39, l310, l311, l312, l313, l314, l315, l316, l317, l318, l319, l320, l321, l322, l323, l324, l325, l326⟩ := q _ hbA3
  rcases Bool.eq_false_or_eq_true (decide (s.nodes.length ≤ 40) && decide (s.powers.length ≤ 40) && decide (s.walls.length ≤ 40)) with q1 | q1
  rotate_left
  · rw [q1]
    go_wp2
    go_ret
    exact ⟨rfl, hbz3⟩
  rw [q1]
  clear q1
  go_wp2_with fail
  refine (r06Few x _ _ (hx'.out.mono hbz3)).mono ?_
  rintro e w4 ⟨rfl, hb4⟩
  have hbA4 := b_then hbA3 hb4
  have hbz4 := b_then hb1 hbA4
  try clear l30 l31 l32 l33 l34 l35 l36 l37 l38 l39 l310 l311 l312 l313 l314 l315 l316 l317 l318 l319 l320 l321 l322 l323 l324 l325 l326
  obtain ⟨l40, l41, l42, l43, l44, l45, l46, l47, l48, l49, l410, l411, l412, l413, l414, l415, l416, l417, l418, l419, l420, l421, l422, l423, l424, l425, l426⟩ := q _ hbA4
  rcases Bool.eq_false_or_eq_true (fewB x) with q2 | q2
  rotate_left
  · rw [q2]
    go_wp2
    go_ret
    exact ⟨rfl, hbz4⟩
  rw [q2]
  clear q2
  by_cases hl : x.fds.length ≤ 63
  rotate_left
  · have g : decide (63 < (x.fds.length : Int)) = true := by simp; omega
    clear hl
    go_wp2
    go_ret
    exact ⟨rfl, hbz4⟩
  have g : decide (63 < (x.fds.length : Int)) = false := by simp; omega
  go_upto_region 5 with fail
  go_cut [7, 8] (fun s7 s8 wx => ∃ B C : Nat, s7 = .pointer (some ⟨B, 0, none⟩) ∧ s8 = .pointer (some ⟨C, 0, none⟩) ∧ Below w4.heap.size w4 wx ∧
    wx.cell? ⟨B, 0, none⟩ = some (.int .i64 qa) ∧ wx.cell? ⟨B, 1, none⟩ = some (.int .i64 qb) ∧ wx.cell? ⟨B, 2, none⟩ = some (.int .i64 qc) ∧ wx.cell? ⟨B, 3, none⟩ = some (.int .i64 f) ∧ wx.cell? ⟨B, 4, none⟩ = some (.int .i64 t) ∧
    wx.cell? ⟨C, 0, none⟩ = some (.int .i64 ffrm) ∧ wx.cell? ⟨C, 1, none⟩ = some (.int .i64 fto) ∧ wx.cell? ⟨C, 2, none⟩ = some (.int .i64 fch) ∧ wx.cell? ⟨C, 3, none⟩ = some (.int .i64 ffirst) ∧ wx.cell? ⟨C, 4, none⟩ = some (.int .i64 ftil) ∧ wx.cell? ⟨C, 5, none⟩ = some (.int .i64 ffac))
  case first =>
    have hS : ∀ w', Below w4.heap.size w4 w' → Below w4.heap.size w4 w' ∧ w'.cell? ⟨w.heap.size + 1 + 1, 0, none⟩ = some (.int .i64 qa) ∧ w'.cell? ⟨w.heap.size + 1 + 1, 1, none⟩ = some (.int .i64 qb) ∧ w'.cell? ⟨w.heap.size + 1 + 1, 2, none⟩ = some (.int .i64 qc) ∧ w'.cell? ⟨w.heap.size + 1 + 1, 3, none⟩ = some (.int .i64 f) ∧ w'.cell? ⟨w.heap.size + 1 + 1, 4, none⟩ = some (.int .i64 t) ∧ w'.cell? ⟨w.heap.size + 1 + 1, 13, none⟩ = some (.int .i64 ffrm) ∧ w'.cell? ⟨w.heap.size + 1 + 1, 14, none⟩ = some (.int .i64 fto) ∧ w'.cell? ⟨w.heap.size + 1 + 1, 15, none⟩ = some (.int .i64 fch) ∧ w'.cell? ⟨w.heap.size + 1 + 1, 16, none⟩ = some (.int .i64 ffirst) ∧ w'.cell? ⟨w.heap.size + 1 + 1, 17, none⟩ = some (.int .i64 ftil) ∧ w'.cell? ⟨w.heap.size + 1 + 1, 18, none⟩ = some (.int .i64 ffac) := by
      intro w' hw'
      obtain ⟨k0, k1, k2, k3, k4, k5, k6, k7, k8, k9, k10, k11, k12, k13, k14, k15, k16, k17, k18, k19, k20, k21, k22, k23, k24, k25, k26⟩ := q _ (b_then hbA4 hw')
      exact ⟨hw', k8, k9, k10, k11, k12, k21, k22, k23, k24, k25, k26⟩
    have HSS := Lib.hid hS
    clear hS
    go_region_held3 (fun w' => Below w4.heap.size w4 w' ∧ w'.cell? ⟨w.heap.size + 1 + 1, 0, none⟩ = some (.int .i64 qa) ∧ w'.cell? ⟨w.heap.size + 1 + 1, 1, none⟩ = some (.int .i64 qb) ∧ w'.cell? ⟨w.heap.size + 1 + 1, 2, none⟩ = some (.int .i64 qc) ∧ w'.cell? ⟨w.heap.size + 1 + 1, 3, none⟩ = some (.int .i64 f) ∧ w'.cell? ⟨w.heap.size + 1 + 1, 4, none⟩ = some (.int .i64 t) ∧ w'.cell? ⟨w.heap.size + 1 + 1, 13, none⟩ = some (.int .i64 ffrm) ∧ w'.cell? ⟨w.heap.size + 1 + 1, 14, none⟩ = some (.int .i64 fto) ∧ w'.cell? ⟨w.heap.size + 1 + 1, 15, none⟩ = some (.int .i64 fch) ∧ w'.cell? ⟨w.heap.size + 1 + 1, 16, none⟩ = some (.int .i64 ffirst) ∧ w'.cell? ⟨w.heap.size + 1 + 1, 17, none⟩ = some (.int .i64 ftil) ∧ w'.cell? ⟨w.heap.size + 1 + 1, 18, none⟩ = some (.int .i64 ffac))
      ((refine HSS.out _ ?_; repeat (first | exact Below.refl _ _ | assumption | exact And.left (by assumption) | apply b_drew | apply b_alloc | refine Below.setCell ?_ (by simp) _)))
      (fail)
    all_goals (go_wp2_with fail; go_meet; exact ⟨_, _, rfl, rfl, by (repeat (first | exact Below.refl _ _ | assumption | apply b_alloc | apply b_drewN | apply b_drew)), by go_simp, by go_simp, by go_simp, by go_simp, by go_simp, by go_simp, by go_simp, by go_simp, by go_simp, by go_simp, by go_simp⟩)
  case rest =>
    obtain ⟨B, C, rfl, rfl, hb5, bq0, bq1, bq2, bq3, bq4, cf0, cf1, cf2, cf3, cf4, cf5⟩ := hcut
    have hbA5 := b_then hbA4 hb5
    have hbz5 := b_then hb1 hbA5
    obtain ⟨l50, l51, l52, l53, l54, l55, l56, l57, l58, l59, l510, l511, l512, l513, l514, l515, l516, l517, l518, l519, l520, l521, l522, l523, l524, l525, l526⟩ := q _ hbA5
    have p2 : ∀ wr, Below wc.heap.size wc wr → wr.cell? ⟨B, 0, none⟩ = some (.int .i64 qa) ∧ wr.cell? ⟨B, 1, none⟩ = some (.int .i64 qb) ∧ wr.cell? ⟨B, 2, none⟩ = some (.int .i64 qc) ∧ wr.cell? ⟨B, 3, none⟩ = some (.int .i64 f) ∧ wr.cell? ⟨B, 4, none⟩ = some (.int .i64 t) ∧
        wr.cell? ⟨C, 0, none⟩ = some (.int .i64 ffrm) ∧ wr.cell? ⟨C, 1, none⟩ = some (.int .i64 fto) ∧ wr.cell? ⟨C, 2, none⟩ = some (.int .i64 fch) ∧ wr.cell? ⟨C, 3, none⟩ = some (.int .i64 ffirst) ∧ wr.cell? ⟨C, 4, none⟩ = some (.int .i64 ftil) ∧ wr.cell? ⟨C, 5, none⟩ = some (.int .i64 ffac) :=
      fun wr h => ⟨cell_mono h bq0, cell_mono h bq1, cell_mono h bq2, cell_mono h bq3, cell_mono h bq4, cell_mono h cf0, cell_mono h cf1, cell_mono h cf2, cell_mono h cf3, cell_mono h cf4, cell_mono h cf5⟩
    have hbC5 : Below wc.heap.size wc wc := Below.refl _ _
    go_wp2_with fail
    refine (sSignal s x _ _ qa qb qc f _ (hs'.out.mono hbz5) (hx'.out.mono hbz5)).mono ?_
    rintro e w6 ⟨rfl, hb6⟩
    have hbA6 := b_then hbA5 hb6
    have hbz6 := b_then hb1 hbA6
    have hbC6 := b_then hbC5 hb6
    try clear l50 l51 l52 l53 l54 l55 l56 l57 l58 l59 l510 l511 l512 l513 l514 l515 l516 l517 l518 l519 l520 l521 l522 l523 l524 l525 l526
    obtain ⟨l60, l61, l62, l63, l64, l65, l66, l67, l68, l69, l610, l611, l612, l613, l614, l615, l616, l617, l618, l619, l620, l621, l622, l623, l624, l625, l626⟩ := q _ hbA6
    clear bq0 bq1 bq2 bq3 bq4 cf0 cf1 cf2 cf3 cf4 cf5
    obtain ⟨bq0, bq1, bq2, bq3, bq4, cf0, cf1, cf2, cf3, cf4, cf5⟩ := p2 _ hbC6
    by_cases z : sigE s x qa qb qc f = 0
    rotate_left
    · have hN : sigN s x qa qb qc f = 0 := by simp [sigN, z]
      rw [hN]
      have g1 : (sigE s x qa qb qc f != 0) = true := by simpa using z
      have g2 : (sigE s x qa qb qc f == 0) = false := by simpa using z
      generalize sigE s x qa qb qc f = E at *
      clear hN z
      go_wp2
      go_ret
      exact ⟨rfl, hbz6⟩
    obtain ⟨y1, y2, y3, y4, y5⟩ := sig_full z
    obtain ⟨y6, y7, y8, y9, y10⟩ := sig_le z
    have hmore := sig_more (f := ⟨ffrm, fto, fch, ffirst, ftil, ffac⟩) z
    have hafter := fun h => sig_after (f := ⟨ffrm, fto, fch, ffirst, ftil, ffac⟩) (x := x) z h
    rw [z]
    have HZ := Lib.hid z
    have Y1 := Lib.hid y1
    have Y2 := Lib.hid y2
    have Y3 := Lib.hid y3
    have HM := Lib.hid hmore
    have HAF := Lib.hid hafter
    clear z y1 y2 y3 y4 y5 hmore hafter
    have hnone : ∀ W, SpmV W (.agg #[.slice none 0 0, .slice none 0 0]) noneS := fun W => ⟨_, _, rfl, ⟨_, _, rfl, Nat.le_refl _, Nat.zero_le _, fun h => absurd rfl h⟩, ⟨_, _, rfl, Nat.le_refl _, Nat.zero_le _, fun h => absurd rfl h⟩⟩
    go_wp2_with fail
    refine (sSignal s noneS _ _ qa qb qc f _ (hs'.out.mono hbz6) (hnone _)).mono ?_
    rintro e w7 ⟨rfl, hb7⟩
    have hbA7 := b_then hbA6 hb7
    have hbz7 := b_then hb1 hbA7
    have hbC7 := b_then hbC6 hb7
    try clear l60 l61 l62 l63 l64 l65 l66 l67 l68 l69 l610 l611 l612 l613 l614 l615 l616 l617 l618 l619 l620 l621 l622 l623 l624 l625 l626
    obtain ⟨l70, l71, l72, l73, l74, l75, l76, l77, l78, l79, l710, l711, l712, l713, l714, l715, l716, l717, l718, l719, l720, l721, l722, l723, l724, l725, l726⟩ := q _ hbA7
    clear bq0 bq1 bq2 bq3 bq4 cf0 cf1 cf2 cf3 cf4 cf5
    obtain ⟨bq0, bq1, bq2, bq3, bq4, cf0, cf1, cf2, cf3, cf4, cf5⟩ := p2 _ hbC7
    rw [Y1.out, Y2.out]
    go_wp2_with fail
    refine (sWorst s x _ _ qa qb _ (hs'.out.mono hbz7) (hx'.out.mono hbz7)).mono ?_
    rintro e w8 ⟨rfl, hb8⟩
    have hbA8 := b_then hbA7 hb8
    have hbz8 := b_then hb1 hbA8
    have hbC8 := b_then hbC7 hb8
    try clear l70 l71 l72 l73 l74 l75 l76 l77 l78 l79 l710 l711 l712 l713 l714 l715 l716 l717 l718 l719 l720 l721 l722 l723 l724 l725 l726
    obtain ⟨l80, l81, l82, l83, l84, l85, l86, l87, l88, l89, l810, l811, l812, l813, l814, l815, l816, l817, l818, l819, l820, l821, l822, l823, l824, l825, l826⟩ := q _ hbA8
    clear bq0 bq1 bq2 bq3 bq4 cf0 cf1 cf2 cf3 cf4 cf5
    obtain ⟨bq0, bq1, bq2, bq3, bq4, cf0, cf1, cf2, cf3, cf4, cf5⟩ := p2 _ hbC8
    rw [Y3.out]
    have j1 : decide (sigN s x qa qb qc f < wstN s x qa qb) = false := by simp; omega
    have j2 : decide (betweenI s qa qb < sigN s x qa qb qc f) = false := by simp; omega
    have j3 : decide (wstN s x qa qb < 0) = false := by simp; omega
    go_upto_region 14 with fail
    try clear l80 l81 l82 l83 l84 l85 l86 l87 l88 l89 l810 l811 l812 l813 l814 l815 l816 l817 l818 l819 l820 l821 l822 l823 l824 l825 l826
    clear bq0 bq1 bq2 bq3 bq4 cf0 cf1 cf2 cf3 cf4 cf5
    obtain ⟨W8, hW8⟩ : ∃ W8, W8 = w8.alloc (.cells #[.slice A3 x.srcs.length c3, .slice A4 x.fds.length c4] 25) := ⟨_, rfl⟩
    rw [← hW8]
    have hb88 : Below w8.heap.size w8 W8 := by rw [hW8]; (repeat (first | exact Below.refl _ _ | assumption | apply b_alloc | apply b_drewN | apply b_drew))
    have e0 : W8.cell? ⟨w8.heap.size, 0, none⟩ = some (.slice A3 x.srcs.length c3) := by rw [hW8]; go_simp
    have e1 : W8.cell? ⟨w8.heap.size, 1, none⟩ = some (.slice A4 x.fds.length c4) := by rw [hW8]; go_simp
    have fz : W8.frozen? ⟨w8.heap.size, 1, none⟩ = false := by rw [hW8]; go_simp
    have hlt8 : w8.heap.size < W8.heap.size := by rw [hW8]; simp
    have HW8 := Lib.hid hW8
    clear hW8
    go_cut [] (fun wx => ∃ u : Value, Below w8.heap.size w8 wx ∧ wx.cell? ⟨w8.heap.size, 0, none⟩ = some (.slice A3 x.srcs.length c3) ∧ wx.cell? ⟨w8.heap.size, 1, none⟩ = some u ∧ SlV 6 KFd wx u (x.fds ++ [⟨ffrm, fto, fch, ffirst, ftil, ffac⟩]))
    case first =>
      have hS : ∀ w', Below w8.heap.size w8 w' → Below w8.heap.size w8 w' ∧ w'.cell? ⟨w.heap.size + 1, 1, none⟩ = some (.slice A4 x.fds.length c4) ∧ w'.cell? ⟨C, 0, none⟩ = some (.int .i64 ffrm) ∧ w'.cell? ⟨C, 1, none⟩ = some (.int .i64 fto) ∧ w'.cell? ⟨C, 2, none⟩ = some (.int .i64 fch) ∧ w'.cell? ⟨C, 3, none⟩ = some (.int .i64 ffirst) ∧ w'.cell? ⟨C, 4, none⟩ = some (.int .i64 ftil) ∧ w'.cell? ⟨C, 5, none⟩ = some (.int .i64 ffac) := by
        intro w' hw'
        obtain ⟨k0, k1, k2, k3, k4, k5, k6, k7, k8⟩ := q _ (b_then hbA8 hw')
        obtain ⟨_, _, _, _, _, m0, m1, m2, m3, m4, m5⟩ := p2 _ (b_then hbC8 hw')
        exact ⟨hw', k7, m0, m1, m2, m3, m4, m5⟩
      have HSS := Lib.hid hS
      clear hS
      have hle : W8.heap.size = w8.heap.size + 1 := by rw [HW8.out]; simp
      have Hle := Lib.hid hle
      clear hle
      go_region_held3 (fun w' => Below w8.heap.size w8 w' ∧ w'.cell? ⟨w.heap.size + 1, 1, none⟩ = some (.slice A4 x.fds.length c4) ∧ w'.cell? ⟨C, 0, none⟩ = some (.int .i64 ffrm) ∧ w'.cell? ⟨C, 1, none⟩ = some (.int .i64 fto) ∧ w'.cell? ⟨C, 2, none⟩ = some (.int .i64 fch) ∧ w'.cell? ⟨C, 3, none⟩ = some (.int .i64 ffirst) ∧ w'.cell? ⟨C, 4, none⟩ = some (.int .i64 ftil) ∧ w'.cell? ⟨C, 5, none⟩ = some (.int .i64 ffac))
        ((refine HSS.out _ ?_; repeat (first | with_reducible exact hb88.trans (hbW.mono (Nat.le_of_lt hlt8)) | with_reducible exact b_then (And.left (by assumption)) hbq | with_reducible exact Below.refl _ _ | with_reducible assumption | with_reducible exact And.left (by assumption) | with_reducible apply b_drew | with_reducible apply b_alloc | with_reducible refine Below.setCell ?_ (by simp) _)))
        (first
          | (go_at_call 32; (with_reducible refine (cloneFd x.fds _ w W8.drew (b_then hbz8 (And.left (by assumption))) H4.out (by omega)).mono ?_); rintro e w9 ⟨u, cs, rfl, hown, hflat, hbq⟩)
          | (go_at_call 32; (with_reducible refine (cloneFd x.fds _ w (W8.alloc _).drew (b_then hbz8 (And.left (by assumption))) H4.out (by omega)).mono ?_); rintro e w9 ⟨u2, cs, rfl, hown, hflat, hbq⟩)
          | (have hu1 := u
             have hnw := World.news_of_block (w := w9.alloc (.cells #[.int .i64 ffrm, .int .i64 fto, .int .i64 fch, .int .i64 ffirst, .int .i64 ftil, .int .i64 ffac] 47)) (cs := #[.int .i64 ffrm, .int .i64 fto, .int .i64 fch, .int .i64 ffirst, .int .i64 ftil, .int .i64 ffac]) (t := 47) (fr := (0, 0)) (heap_alloc_new w9 _)
             have hno := own_below hown (b_alloc (Below.refl _ w9) (.cells #[.int .i64 ffrm, .int .i64 fto, .int .i64 fch, .int .i64 ffirst, .int .i64 ftil, .int .i64 ffac] 47))
             refine step_append_cells (W := w9.alloc (.cells #[.int .i64 ffrm, .int .i64 fto, .int .i64 fch, .int .i64 ffirst, .int .i64 ftil, .int .i64 ffac] 47)) (z := .agg #[.int .i64 0, .int .i64 0, .int .i64 0, .int .i64 0, .int .i64 0, .int .i64 0]) (sz := 6) (bytes := 48) _ rfl (.tmp 104) (.tmp 106) 23 47 rfl Try.underlying23 infocloneFd rfl (by decide) u x.fds.length cs rfl ⟨w9.heap.size, 0, none⟩ 1 1 [.int .i64 ffrm, .int .i64 fto, .int .i64 fch, .int .i64 ffirst, .int .i64 ftil, .int .i64 ffac] rfl rfl hnw (by simp [Value.oneCell']) (by decide) hno (by have := hbq.size; simp at this ⊢; omega) (by unfold maxLen; omega) (by omega) ?_
             intro g cap w10 hown2 hbt
             have hbW := hbt _ W8 (by first | exact Nat.le_refl _ | simp) (by have := hbq.size; simp at this ⊢; omega) (b_alloc (b_then (b_drew (Below.refl _ _)) hbq) _)
             have ex0 := cell_mono hbW e0
             have ex1 := cell_mono hbW e1
             have fz1 : w10.frozen? ⟨w8.heap.size, 1, none⟩ = false := (hbW.frozen (p := ⟨w8.heap.size, 1, none⟩) hlt8).trans fz)
          | (have hu1 := u2
             have hnw := World.news_of_block (w := w9) (cs := #[.int .i64 ffrm, .int .i64 fto, .int .i64 fch, .int .i64 ffirst, .int .i64 ftil, .int .i64 ffac]) (t := 47) (fr := (0, 0)) ((hbq.block W8.heap.size (by simp)).trans (heap_alloc_new W8 _))
             refine step_append_cells (W := w9) (z := .agg #[.int .i64 0, .int .i64 0, .int .i64 0, .int .i64 0, .int .i64 0, .int .i64 0]) (sz := 6) (bytes := 48) _ rfl (.tmp 104) (.tmp 106) 23 47 rfl Try.underlying23 infocloneFd rfl (by decide) u2 x.fds.length cs rfl ⟨W8.heap.size, 0, none⟩ 1 1 [.int .i64 ffrm, .int .i64 fto, .int .i64 fch, .int .i64 ffirst, .int .i64 ftil, .int .i64 ffac] rfl rfl hnw (by simp [Value.oneCell']) (by decide) hown (by have := hbq.size; simp at this ⊢; omega) (by unfold maxLen; omega) (by omega) ?_
             intro g cap w10 hown2 hbt
             have hbW := hbt _ W8 (by first | exact Nat.le_refl _ | simp) (by have := hbq.size; simp at this ⊢; omega) (b_then (b_drew (b_alloc (Below.refl _ _) _)) hbq)
             have ex0 := cell_mono hbW e0
             have ex1 := cell_mono hbW e1
             have fz1 : w10.frozen? ⟨w8.heap.size, 1, none⟩ = false := (hbW.frozen (p := ⟨w8.heap.size, 1, none⟩) hlt8).trans fz)
          | fail)
      all_goals
        (have hblk : g ≠ w8.heap.size := by
           have h1 := own_base hown2 g rfl
           simp at h1
           omega
         have hbf : Below w8.heap.size w8 (w10.setCell ⟨w8.heap.size, 1, none⟩ (.slice (some ⟨g, 0, none⟩) (x.fds.length + 1) cap)) := Below.setCell (hb88.trans (hbW.mono (Nat.le_of_lt hlt8))) (Nat.le_refl _) _
         have hown3 := ownsRow_setCell_other hown2 (a := ⟨w8.heap.size, 1, none⟩) (by simpa [Value.ownBlock] using hblk) (.slice (some ⟨g, 0, none⟩) (x.fds.length + 1) cap)
         have hfl3 := (hflat.mono KFd.st (b_then hbz8 hbf)).snoc KFd.pl (x := ⟨ffrm, fto, fch, ffirst, ftil, ffac⟩) rfl
         have hsl3 := own_sl2 KFd.pl (xs := x.fds ++ [⟨ffrm, fto, fch, ffirst, ftil, ffac⟩]) (by simpa using hown3) hfl3 (by unfold big; simp; omega)
         go_wp2_with fail
         go_meet
         exact ⟨_, hbf, by go_simp, by go_simp, hsl3⟩)
    case rest =>
      obtain ⟨u, hb9, r0, r1, hsl9⟩ := hcut
      have hbA9 := b_then hbA8 hb9
      have hbz9 := b_then hb1 hbA9
      have hbC9 := b_then hbC8 hb9
      have hlen9 : (x.fds ++ [⟨ffrm, fto, fch, ffirst, ftil, ffac⟩] : List Fd).length = x.fds.length + 1 := by simp
      have hX9 : SpmV wc (.agg #[.slice A3 x.srcs.length c3, u]) (moreF x ⟨ffrm, fto, fch, ffirst, ftil, ffac⟩) := ⟨_, _, rfl, H3.out.mono KSrc.st hbz9, hsl9⟩
      obtain ⟨A9, c9, hu9, _⟩ := id hsl9
      rw [hlen9] at hu9
      subst hu9
      have HX9 := Lib.hid hX9
      clear hX9 hsl9 hlen9
      obtain ⟨l90, l91, l92, l93, l94, l95, l96, l97, l98, l99, l910, l911, l912, l913, l914, l915, l916, l917, l918, l919, l920, l921, l922, l923, l924, l925, l926⟩ := q _ hbA9
      obtain ⟨bq0, bq1, bq2, bq3, bq4, cf0, cf1, cf2, cf3, cf4, cf5⟩ := p2 _ hbC9
      have p3 : ∀ wr, Below wc.heap.size wc wr → wr.cell? ⟨w8.heap.size, 0, none⟩ = some (.slice A3 x.srcs.length c3) ∧ wr.cell? ⟨w8.heap.size, 1, none⟩ = some (.slice A9 (x.fds.length + 1) c9) := fun wr h => ⟨cell_mono h r0, cell_mono h r1⟩
      go_wp2_with fail
      refine (sSignal s (moreF x ⟨ffrm, fto, fch, ffirst, ftil, ffac⟩) _ _ qa qb qc f _ (hs'.out.mono hbz9) HX9.out).mono ?_
      rintro e w10 ⟨rfl, hb10⟩
      have hbA10 := b_then hbA9 hb10
      have hbz10 := b_then hb1 hbA10
      have hbC10 := b_then hbC9 hb10
      try clear l90 l91 l92 l93 l94 l95 l96 l97 l98 l99 l910 l911 l912 l913 l914 l915 l916 l917 l918 l919 l920 l921 l922 l923 l924 l925 l926
      obtain ⟨l100, l101, l102, l103, l104, l105, l106, l107, l108, l109, l1010, l1011, l1012, l1013, l1014, l1015, l1016, l1017, l1018, l1019, l1020, l1021, l1022, l1023, l1024, l1025, l1026⟩ := q _ hbA10
      clear bq0 bq1 bq2 bq3 bq4 cf0 cf1 cf2 cf3 cf4 cf5
      obtain ⟨bq0, bq1, bq2, bq3, bq4, cf0, cf1, cf2, cf3, cf4, cf5⟩ := p2 _ hbC10
      obtain ⟨s0, s1⟩ := p3 _ hb10
      rcases HM.out with ⟨m0, m1⟩ | ⟨m0, m1⟩
      rotate_left
      · rw [m0]
        have M1 := Lib.hid m1
        clear m0 m1
        go_wp2_with fail
        refine (sCheck (moreF x ⟨ffrm, fto, fch, ffirst, ftil, ffac⟩) _ _ (HX9.out.mono hb10)).mono ?_
        rintro e w11 ⟨rfl, hb11⟩
        rw [M1.out, okN_false]
        go_wp2
        go_ret
        exact ⟨rfl, b_then hbz10 hb11⟩
      have M1 := Lib.hid m1
      obtain ⟨k1, k2⟩ := HAF.out m0 m1
      obtain ⟨ff0, ff1⟩ := fd_fac (more_fd m1)
      try dsimp only at ff0 ff1
      have hm0 : 0 ≤ betweenI s qa qb * ffac := Int.mul_nonneg y9 ff0
      have hm1 : betweenI s qa qb * ffac ≤ 68719476736 * 1000 := Int.mul_le_mul y10 ff1 ff0 (by omega)
      have hw : wrap64 (betweenI s qa qb * ffac) = betweenI s qa qb * ffac := w64 (by omega) (by omega)
      have HW9 := Lib.hid hw
      rw [m0]
      generalize sigN s (moreF x ⟨ffrm, fto, fch, ffirst, ftil, ffac⟩) qa qb qc f = p3 at k1 k2 ⊢
      have hap : appB ⟨ffrm, fto, fch, ffirst, ftil, ffac⟩ qa qb qc f = ((decide (ffrm = -1) || decide (ffrm = qa)) && (decide (fto = -1) || decide (fto = qb)) && (decide (fch = -1) || decide (fch = qc)) && decide (ffirst ≤ f) && decide (f < ftil)) := rfl
      generalize appB ⟨ffrm, fto, fch, ffirst, ftil, ffac⟩ qa qb qc f = A at hap k1 k2
      try dsimp only at k2
      have Hap := Lib.hid hap
      have HK1 := Lib.hid k1
      have HK2 := Lib.hid k2
      clear hap k1 k2 m0 m1 j1 j2 j3 hw
      go_upto_region 18 with fail
      generalize (Value.agg #[.int .i64 qa, .int .i64 qb, .int .i64 qc, .int .i64 f, .int .i64 t, .int .i64 longer, .int .i64 spx, .int .i64 spy, .int .i64 spow, .slice A5 sch.length c5, .int .i64 sper, .int .i64 sfrm, .int .i64 sto, .int .i64 ffrm, .int .i64 fto, .int .i64 fch, .int .i64 ffirst, .int .i64 ftil, .int .i64 ffac]) = V2
      go_cut [18] (fun s18 wx => s18 = .bool A ∧ wx = w10)
      case first =>
        by_cases hc : ffrm = -1
        · exact fadesReg1 B C qa qb qc f ffrm fto fch ffirst ftil A w10 bq0 bq1 bq2 bq3 cf0 cf1 cf2 cf3 cf4 Hap.out hc _ _ _ _ _ _ _ _ _ _ _ _ _ _ _ _ _ _ _ _ _ _ _ _ _ _ _ _ _ _ _ _ _ _ _ _ _ _ _ _ _ _ _ _ _ _ _ _ _ _ _ _ _ _ _ _ _ _ _ _ _ _ _ _ _ _ _ _ _ _ _ _ _ _ _ _ _ _ _ _ _ _ _ _ _ _ _ _ _ _ _ _ _ _ _ _ _ _ _ _ _ _ _ _ _ _ _ _ _ _ _ _ _ _ _ _ _ _ _ _ _ _ _ _ _ _ _ _ _ _ _ _ _ _ _ _ _ _ _ _ _ _ _ _ _ _ _ _ _ _ _ _ _ _ _ _ _ _ _ _ _ _ _ _ _ _ _ _ _ _ _ _ _ _ _ _ _ _ _ _ _ _ _ _ _ _ _ _ _ _ _ _ _ _ _ _ (fun b v132 v133 v134 v135 v136 v137 v138 v139 v140 v141 v142 v143 v144 v145 v146 v147 v148 v149 v150 v151 v152 v153 v154 v155 v156 v157 v158 v159 v160 v161 v162 v163 v164 v165 v166 v167 v168 v169 v170 v171 v172 v173 v174 v175 v176 v177 v178 v179 hb => by (dsimp only; go_wp2_with fail; go_meet; exact ⟨by rw [hb], rfl⟩))
        · by_cases hd : ffrm = qa
          · exact fadesReg2 B C qa qb qc f ffrm fto fch ffirst ftil A w10 bq0 bq1 bq2 bq3 cf0 cf1 cf2 cf3 cf4 Hap.out hc hd _ _ _ _ _ _ _ _ _ _ _ _ _ _ _ _ _ _ _ _ _ _ _ _ _ _ _ _ _ _ _ _ _ _ _ _ _ _ _ _ _ _ _ _ _ _ _ _ _ _ _ _ _ _ _ _ _ _ _ _ _ _ _ _ _ _ _ _ _ _ _ _ _ _ _ _ _ _ _ _ _ _ _ _ _ _ _ _ _ _ _ _ _ _ _ _ _ _ _ _ _ _ _ _ _ _ _ _ _ _ _ _ _ _ _ _ _ _ _ _ _ _ _ _ _ _ _ _ _ _ _ _ _ _ _ _ _ _ _ _ _ _ _ _ _ _ _ _ _ _ _ _ _ _ _ _ _ _ _ _ _ _ _ _ _ _ _ _ _ _ _ _ _ _ _ _ _ _ _ _ _ _ _ _ _ _ _ _ _ _ _ _ _ _ _ _ (fun b v132 v133 v134 v135 v136 v137 v138 v139 v140 v141 v142 v143 v144 v145 v146 v147 v148 v149 v150 v151 v152 v153 v154 v155 v156 v157 v158 v159 v160 v161 v162 v163 v164 v165 v166 v167 v168 v169 v170 v171 v172 v173 v174 v175 v176 v177 v178 v179 hb => by (dsimp only; go_wp2_with fail; go_meet; exact ⟨by rw [hb], rfl⟩))
          · exact fadesReg3 B C qa qb qc f ffrm fto fch ffirst ftil A w10 bq0 bq1 bq2 bq3 cf0 cf1 cf2 cf3 cf4 Hap.out hc hd _ _ _ _ _ _ _ _ _ _ _ _ _ _ _ _ _ _ _ _ _ _ _ _ _ _ _ _ _ _ _ _ _ _ _ _ _ _ _ _ _ _ _ _ _ _ _ _ _ _ _ _ _ _ _ _ _ _ _ _ _ _ _ _ _ _ _ _ _ _ _ _ _ _ _ _ _ _ _ _ _ _ _ _ _ _ _ _ _ _ _ _ _ _ _ _ _ _ _ _ _ _ _ _ _ _ _ _ _ _ _ _ _ _ _ _ _ _ _ _ _ _ _ _ _ _ _ _ _ _ _ _ _ _ _ _ _ _ _ _ _ _ _ _ _ _ _ _ _ _ _ _ _ _ _ _ _ _ _ _ _ _ _ _ _ _ _ _ _ _ _ _ _ _ _ _ _ _ _ _ _ _ _ _ _ _ _ _ _ _ _ _ _ _ _ _ (fun b v132 v133 v134 v135 v136 v137 v138 v139 v140 v141 v142 v143 v144 v145 v146 v147 v148 v149 v150 v151 v152 v153 v154 v155 v156 v157 v158 v159 v160 v161 v162 v163 v164 v165 v166 v167 v168 v169 v170 v171 v172 v173 v174 v175 v176 v177 v178 v179 hb => by (dsimp only; go_wp2_with fail; go_meet; exact ⟨by rw [hb], rfl⟩))
      case rest =>
        obtain ⟨rfl, rfl⟩ := hcut
        rcases A with _ | _
        · have e1 := HK1.out rfl
          subst e1
          go_wp2
          go_ret
          exact ⟨ret_bool (by simp), hbz10⟩
        · obtain ⟨e1, e2⟩ := HK2.out rfl
          have hw := HW9.out
          go_wp2
          go_ret
          exact ⟨ret_bool (by simp [e1, e2]), hbz10⟩
end Go.Proofs.Ytlndgoaobalenaa
