/- The law functions: a longer interval, a further transmitter. -/
import Derived.Test.YtlndgoaobalenaaAwake
import Derived.Test.YtlndgoaobalenaaSpcC
import Derived.Test.YtlndgoaobalenaaSpec8
import Derived.Test.YtlndgoaobalenaaCln
import Derived.Test.YtlndgoaobalenaaOpen5
import Derived.Deep.RegionHeld3
import Derived.Deep.RegionHeld
import Derived.Deep.DeepCutAuto
namespace Go.Proofs.Ytlndgoaobalenaa
open Go.RowKit
set_option linter.unusedVariables false
set_option linter.unusedSimpArgs false
set_option maxHeartbeats 4000000
set_option maxRecDepth 100000
theorem xConV (xs : List Int) (c : Int) (v : Value) (w : World) (h : SlV 1 KI w v xs) {b : Bool} (hb : hasB xs c = b) : Calls Try.prog 20 #[v, .int .i64 c] w fun e w' => e = .returned (.bool b) ∧ w = w' := hb ▸ xContains xs c v w h
theorem lGrows (s : Site) (x : Spm) (m : Mr) (v xv mv : Value) (w : World) (hs : SiteV w v s) (hx : SpmV w xv x) (hmv : SlV 1 KI w mv m.s.ch) :
    Calls Try.prog 5 #[v, xv, .agg (moreV m mv).toArray] w fun e w' => e = .returned (.bool true) ∧ Below w.heap.size w w' := by
  have hu := Try.underlying45
  have hu2 := Try.underlying25
  have hu3 := Try.underlying32
  have hu4 := Try.underlying30
  have hu5 := Try.underlying47
  have hu6 := Try.underlying49
  have hu7 := Try.underlying27
  have hs' := Lib.hid hs
  obtain ⟨v0, v1, v2, rfl, h0, h1, h2⟩ := hs
  obtain ⟨A0, c0, rfl, hc0, hm0, hr0⟩ := h0
  obtain ⟨A1, c1, rfl, hc1, hm1, hr1⟩ := h1
  obtain ⟨A2, c2, rfl, hc2, hm2, hr2⟩ := h2
  unfold big at hm0 hm1 hm2
  have hx' := Lib.hid hx
  obtain ⟨x0, x1, rfl, h3, h4⟩ := hx
  have H3 := Lib.hid h3
  have H4 := Lib.hid h4
  obtain ⟨A3, c3, rfl, hc3, hm3, hr3⟩ := h3
  obtain ⟨A4, c4, rfl, hc4, hm4, hr4⟩ := h4
  unfold big at hm3 hm4
  obtain ⟨⟨qa, qb, qc, f, t⟩, longer, ⟨⟨spx, spy⟩, spow, sch, sper, sfrm, sto⟩, ⟨ffrm, fto, fch, ffirst, ftil, ffac⟩⟩ := m
  have hmv' := Lib.hid hmv
  obtain ⟨A5, c5, rfl, hc5, hm5, hr5⟩ := hmv
  dsimp only at *
  unfold big at hm5
  simp only [moreV]
  obtain ⟨W1, hW1⟩ : ∃ W : World, W = (((w.alloc (.cells #[.slice A0 s.nodes.length c0, .slice A1 s.powers.length c1, .slice A2 s.walls.length c2, .int .i64 s.ex, .int .i64 s.noise, .int .i64 s.thr] 45)).alloc (.cells #[.slice A3 x.srcs.length c3, .slice A4 x.fds.length c4] 25)).alloc (.cells #[.int .i64 qa, .int .i64 qb, .int .i64 qc, .int .i64 f, .int .i64 t, .int .i64 longer, .int .i64 spx, .int .i64 spy, .int .i64 spow, .slice A5 sch.length c5, .int .i64 sper, .int .i64 sfrm, .int .i64 sto, .int .i64 ffrm, .int .i64 fto, .int .i64 fch, .int .i64 ffirst, .int .i64 ftil, .int .i64 ffac] 49)) := ⟨_, rfl⟩
  have hb1 : Below w.heap.size w W1 := by rw [hW1]; (repeat (first | exact Below.refl _ _ | assumption | apply b_alloc | apply b_drewN | apply b_drew))
  have q : ∀ wr : World, Below W1.heap.size W1 wr → wr.cell? ⟨w.heap.size, 0, none⟩ = some (.slice A0 s.nodes.length c0) ∧ wr.cell? ⟨w.heap.size, 1, none⟩ = some (.slice A1 s.powers.length c1) ∧ wr.cell? ⟨w.heap.size, 2, none⟩ = some (.slice A2 s.walls.length c2) ∧ wr.cell? ⟨w.heap.size, 3, none⟩ = some (.int .i64 s.ex) ∧ wr.cell? ⟨w.heap.size, 4, none⟩ = some (.int .i64 s.noise) ∧ wr.cell? ⟨w.heap.size, 5, none⟩ = some (.int .i64 s.thr) ∧ wr.cell? ⟨w.heap.size + 1, 0, none⟩ = some (.slice A3 x.srcs.length c3) ∧ wr.cell? ⟨w.heap.size + 1, 1, none⟩ = some (.slice A4 x.fds.length c4) ∧ wr.cell? ⟨w.heap.size + 1 + 1, 0, none⟩ = some (.int .i64 qa) ∧ wr.cell? ⟨w.heap.size + 1 + 1, 1, none⟩ = some (.int .i64 qb) ∧ wr.cell? ⟨w.heap.size + 1 + 1, 2, none⟩ = some (.int .i64 qc) ∧ wr.cell? ⟨w.heap.size + 1 + 1, 3, none⟩ = some (.int .i64 f) ∧ wr.cell? ⟨w.heap.size + 1 + 1, 4, none⟩ = some (.int .i64 t) ∧ wr.cell? ⟨w.heap.size + 1 + 1, 5, none⟩ = some (.int .i64 longer) ∧ wr.cell? ⟨w.heap.size + 1 + 1, 6, none⟩ = some (.int .i64 spx) ∧ wr.cell? ⟨w.heap.size + 1 + 1, 7, none⟩ = some (.int .i64 spy) ∧ wr.cell? ⟨w.heap.size + 1 + 1, 8, none⟩ = some (.int .i64 spow) ∧ wr.cell? ⟨w.heap.size + 1 + 1, 9, none⟩ = some (.slice A5 sch.length c5) ∧ wr.cell? ⟨w.heap.size + 1 + 1, 10, none⟩ = some (.int .i64 sper) ∧ wr.cell? ⟨w.heap.size + 1 + 1, 11, none⟩ = some (.int .i64 sfrm) ∧ wr.cell? ⟨w.heap.size + 1 + 1, 12, none⟩ = some (.int .i64 sto) ∧ wr.cell? ⟨w.heap.size + 1 + 1, 13, none⟩ = some (.int .i64 ffrm) ∧ wr.cell? ⟨w.heap.size + 1 + 1, 14, none⟩ = some (.int .i64 fto) ∧ wr.cell? ⟨w.heap.size + 1 + 1, 15, none⟩ = some (.int .i64 fch) ∧ wr.cell? ⟨w.heap.size + 1 + 1, 16, none⟩ = some (.int .i64 ffirst) ∧ wr.cell? ⟨w.heap.size + 1 + 1, 17, none⟩ = some (.int .i64 ftil) ∧ wr.cell? ⟨w.heap.size + 1 + 1, 18, none⟩ = some (.int .i64 ffac) := fun wr hwr => ⟨cell_mono hwr (by rw [hW1]; go_simp), cell_mono hwr (by rw [hW1]; go_simp), cell_mono hwr (by rw [hW1]; go_simp), cell_mono hwr (by rw [hW1]; go_simp), cell_mono hwr (by rw [hW1]; go_simp), cell_mono hwr (by rw [hW1]; go_simp), cell_mono hwr (by rw [hW1]; go_simp), cell_mono hwr (by rw [hW1]; go_simp), cell_mono hwr (by rw [hW1]; go_simp), cell_mono hwr (by rw [hW1]; go_simp), cell_mono hwr (by rw [hW1]; go_simp), cell_mono hwr (by rw [hW1]; go_simp), cell_mono hwr (by rw [hW1]; go_simp), cell_mono hwr (by rw [hW1]; go_simp), cell_mono hwr (by rw [hW1]; go_simp), cell_mono hwr (by rw [hW1]; go_simp), cell_mono hwr (by rw [hW1]; go_simp), cell_mono hwr (by rw [hW1]; go_simp), cell_mono hwr (by rw [hW1]; go_simp), cell_mono hwr (by rw [hW1]; go_simp), cell_mono hwr (by rw [hW1]; go_simp), cell_mono hwr (by rw [hW1]; go_simp), cell_mono hwr (by rw [hW1]; go_simp), cell_mono hwr (by rw [hW1]; go_simp), cell_mono hwr (by rw [hW1]; go_simp), cell_mono hwr (by rw [hW1]; go_simp), cell_mono hwr (by rw [hW1]; go_simp)⟩
  have HW := Lib.hid hW1
  clear hW1
  go_enter Try.func5, Try.ntmps5
  go_wp2_with fail
  rw [← HW.out]
  have hbA1 : Below W1.heap.size W1 W1 := Below.refl _ _
  refine (awake _).mono ?_
  rintro e w2 ⟨rfl, hbA2⟩
  have hbz2 := b_then hb1 hbA2
  obtain ⟨l20, l21, l22, l23, l24, l25, l26, l27, l28, l29, l210, l211, l212, l213, l214, l215, l216, l217, l218, l219, l220, l221, l222, l223, l224, l225, l226⟩ := q _ hbA2
  go_wp2_with fail
  refine (r05Few s _ _ (hs'.out.mono hbz2)).mono ?_
  rintro e w3 ⟨rfl, hb3⟩
  have hbA3 := b_then hbA2 hb3
  have hbz3 := b_then hb1 hbA3
  try clear l20 l21 l22 l23 l24 l25 l26 l27 l28 l29 l210 l211 l212 l213 l214 l215 l216 l217 l218 l219 l220 l221 l222 l223 l224 l225 l226
  obtain ⟨l30, l31, l32, l33, l34, l35, l36, l37, l38, l39, l310, l311, l312, l313, l314, l315, l316, l317, l318, l319, l320, l321, l322, l323, l324, l325, l326⟩ := q _ hbA3
  rcases Bool.eq_false_or_eq_true (decide (s.nodes.length ≤ 40) && decide (s.powers.length ≤ 40) && decide (s.walls.length ≤ 40)) with q1 | q1
  rotate_left
  · rw [q1]
    go_wp2
    go_ret
    exact ⟨rfl, hbz3⟩
  rw [q1]
  clear q1
  go_wp2_with fail
  refine (r06Few x _ _ (hx'.out.mono hbz3)).mono ?_
  rintro e w4 ⟨rfl, hb4⟩
  have hbA4 := b_then hbA3 hb4
  have hbz4 := b_then hb1 hbA4
  try clear l30 l31 l32 l33 l34 l35 l36 l37 l38 l39 l310 l311 l312 l313 l314 l315 l316 l317 l318 l319 l320 l321 l322 l323 l324 l325 l326
  obtain ⟨l40, l41, l42, l43, l44, l45, l46, l47, l48, l49, l410, l411, l412, l413, l414, l415, l416, l417, l418, l419, l420, l421, l422, l423, l424, l425, l426⟩ := q _ hbA4
  rcases Bool.eq_false_or_eq_true (fewB x) with q2 | q2
  rotate_left
  · rw [q2]
    go_wp2
    go_ret
    exact ⟨rfl, hbz4⟩
  rw [q2]
  clear q2
  by_cases hl : x.srcs.length ≤ 15 ∧ sch.length ≤ 20 ∧ 0 ≤ longer ∧ longer ≤ 1000000
  rotate_left
  · have HL := Lib.hid hl
    clear hl
    go_wp2_with fail
    all_goals first
      | (go_ret; exact ⟨rfl, hbz4⟩)
      | (exfalso; have := HL.out; omega)
  obtain ⟨hl0, hl1, hl2, hl3⟩ := hl
  have g0 : decide (15 < (x.srcs.length : Int)) = false := by simp; omega
  have g1 : decide (20 < (sch.length : Int)) = false := by simp; omega
  have g2 : decide (longer < 0) = false := by simp; omega
  have g3 : decide (1000000 < longer) = false := by simp; omega
  go_upto_region 6 with fail
  obtain ⟨wq, hwc⟩ : ∃ wq, wq = w4.alloc (.cells #[.int .i64 qa, .int .i64 qb, .int .i64 qc, .int .i64 f, .int .i64 t] 32) := ⟨_, rfl⟩
  rw [← hwc]
  have hb5 : Below w4.heap.size w4 wq := by rw [hwc]; (repeat (first | exact Below.refl _ _ | assumption | apply b_alloc | apply b_drewN | apply b_drew))
  have hbA5 := b_then hbA4 hb5
  have hbz5 := b_then hb1 hbA5
  have hbC5 : Below wq.heap.size wq wq := Below.refl _ _
  have p2 : ∀ wr, Below wq.heap.size wq wr → wr.cell? ⟨w4.heap.size, 0, none⟩ = some (.int .i64 qa) ∧ wr.cell? ⟨w4.heap.size, 1, none⟩ = some (.int .i64 qb) ∧ wr.cell? ⟨w4.heap.size, 2, none⟩ = some (.int .i64 qc) ∧ wr.cell? ⟨w4.heap.size, 3, none⟩ = some (.int .i64 f) ∧ wr.cell? ⟨w4.heap.size, 4, none⟩ = some (.int .i64 t) :=
    fun wr h => ⟨cell_mono h (by rw [hwc]; go_simp), cell_mono h (by rw [hwc]; go_simp), cell_mono h (by rw [hwc]; go_simp), cell_mono h (by rw [hwc]; go_simp), cell_mono h (by rw [hwc]; go_simp)⟩
  have HWC := Lib.hid hwc
  clear hwc
  try clear l40 l41 l42 l43 l44 l45 l46 l47 l48 l49 l410 l411 l412 l413 l414 l415 l416 l417 l418 l419 l420 l421 l422 l423 l424 l425 l426
  obtain ⟨l50, l51, l52, l53, l54, l55, l56, l57, l58, l59, l510, l511, l512, l513, l514, l515, l516, l517, l518, l519, l520, l521, l522, l523, l524, l525, l526⟩ := q _ hbA5
  obtain ⟨bq0, bq1, bq2, bq3, bq4⟩ := p2 _ hbC5
  go_wp2_with fail
  refine (sExternal s x _ _ qa qc f t _ (hs'.out.mono hbz5) (hx'.out.mono hbz5)).mono ?_
  rintro e w6 ⟨rfl, hb6⟩
  have hbA6 := b_then hbA5 hb6
  have hbz6 := b_then hb1 hbA6
  have hbC6 := b_then hbC5 hb6
  try clear l50 l51 l52 l53 l54 l55 l56 l57 l58 l59 l510 l511 l512 l513 l514 l515 l516 l517 l518 l519 l520 l521 l522 l523 l524 l525 l526
  obtain ⟨l60, l61, l62, l63, l64, l65, l66, l67, l68, l69, l610, l611, l612, l613, l614, l615, l616, l617, l618, l619, l620, l621, l622, l623, l624, l625, l626⟩ := q _ hbA6
  clear bq0 bq1 bq2 bq3 bq4
  obtain ⟨bq0, bq1, bq2, bq3, bq4⟩ := p2 _ hbC6
  by_cases z : extE s x qa qc f t = 0
  rotate_left
  · have hN : extN s x qa qc f t = 0 := by simp [extN, z]
    rw [hN]
    have g1 : (extE s x qa qc f t != 0) = true := by simpa using z
    have g2 : (extE s x qa qc f t == 0) = false := by simpa using z
    generalize extE s x qa qc f t = E at *
    clear hN z
    go_wp2
    go_ret
    exact ⟨rfl, hbz6⟩
  have hp0 := ext_pos z
  obtain ⟨_, hxv, _, _, hiv⟩ := ext_zero z
  obtain ⟨i0, i1, i2⟩ := ivB_is hiv
  have hclr := fun h => ext_clear (s := s) (x := x) (a := qa) z h
  have hlong := fun h => ext_longer (s := s) (u := t + longer) z h (by omega)
  have hmore := ext_more (q := ⟨⟨spx, spy⟩, spow, sch, sper, sfrm, sto⟩) z
  have hw : wrap64 (t + longer) = t + longer := w64 (by omega) (by omega)
  rw [z]
  generalize hpx : extN s x qa qc f t = p at *
  have HZ := Lib.hid z
  have HCL := Lib.hid hclr
  have HLO := Lib.hid hlong
  have HMO := Lib.hid hmore
  have HW9 := Lib.hid hw
  have HXV := Lib.hid hxv
  clear z hclr hlong hmore hw hxv hiv hpx
  go_upto_region 9 with fail
  have hS : ∀ w', Below w6.heap.size w6 w' → Below w6.heap.size w6 w' ∧ w'.cell? ⟨w.heap.size + 1, 0, none⟩ = some (.slice A3 x.srcs.length c3) ∧ w'.cell? ⟨w.heap.size + 1, 1, none⟩ = some (.slice A4 x.fds.length c4) ∧ w'.cell? ⟨w4.heap.size, 2, none⟩ = some (.int .i64 qc) ∧ w'.cell? ⟨w4.heap.size, 3, none⟩ = some (.int .i64 f) ∧ w'.cell? ⟨w4.heap.size, 4, none⟩ = some (.int .i64 t) := by
    intro w' hw'
    obtain ⟨k0, k1, k2, k3, k4, k5, k6, k7, k8⟩ := q _ (b_then hbA6 hw')
    obtain ⟨_, _, m2, m3, m4⟩ := p2 _ (b_then hbC6 hw')
    exact ⟨hw', k6, k7, m2, m3, m4⟩
  have HSS := Lib.hid hS
  clear hS
  have hj0 : decide (p < 0) = false := by simp; omega
  go_cut [84] (fun s84 wx => s84 = .bool false ∧ Below w6.heap.size w6 wx)
  case first =>
    rcases Bool.eq_false_or_eq_true (hasB (clearL x f t) qc) with hcb | hcb
    · have hp : p = 0 := HCL.out hcb
      have HCB := Lib.hid hcb
      subst hp
      clear hcb
      go_region_held3 (fun w' => Below w6.heap.size w6 w' ∧ w'.cell? ⟨w.heap.size + 1, 0, none⟩ = some (.slice A3 x.srcs.length c3) ∧ w'.cell? ⟨w.heap.size + 1, 1, none⟩ = some (.slice A4 x.fds.length c4) ∧ w'.cell? ⟨w4.heap.size, 2, none⟩ = some (.int .i64 qc) ∧ w'.cell? ⟨w4.heap.size, 3, none⟩ = some (.int .i64 f) ∧ w'.cell? ⟨w4.heap.size, 4, none⟩ = some (.int .i64 t))
        ((refine HSS.out _ ?_; first | with_reducible exact b_then (And.left (by assumption)) hbq | with_reducible exact b_drew (Below.refl _ _) | with_reducible exact And.left (by assumption)))
        (first
          | (go_at_call 21; refine (sClear x _ f t _ (hx'.out.mono (b_then hbz6 (And.left (by assumption))))).mono ?_; rintro e w7 ⟨u, rfl, hsu, hbq⟩)
          | (go_at_call 20; refine (xConV _ _ _ _ hsu HCB.out).mono ?_; rintro e w8 ⟨rfl, rfl⟩)
          | fail)
      go_wp2_with fail
      go_meet
      exact ⟨rfl, And.left (by assumption)⟩
    · have HCB := Lib.hid hcb
      clear hcb
      first
      | (go_region_held (fun w' => Below w6.heap.size w6 w' ∧ w'.cell? ⟨w.heap.size + 1, 0, none⟩ = some (.slice A3 x.srcs.length c3) ∧ w'.cell? ⟨w.heap.size + 1, 1, none⟩ = some (.slice A4 x.fds.length c4) ∧ w'.cell? ⟨w4.heap.size, 2, none⟩ = some (.int .i64 qc) ∧ w'.cell? ⟨w4.heap.size, 3, none⟩ = some (.int .i64 f) ∧ w'.cell? ⟨w4.heap.size, 4, none⟩ = some (.int .i64 t))
          ((refine HSS.out _ ?_; first | with_reducible exact b_then (And.left (by assumption)) hbq | with_reducible exact b_drew (Below.refl _ _) | with_reducible exact And.left (by assumption)))
          (first
            | (go_at_call 21; refine (sClear x _ f t _ (hx'.out.mono (b_then hbz6 (And.left (by assumption))))).mono ?_; rintro e w7 ⟨u, rfl, hsu, hbq⟩)
            | (go_at_call 20; refine (xConV _ _ _ _ hsu HCB.out).mono ?_; rintro e w8 ⟨rfl, rfl⟩)
            | fail))
      | fail
      go_wp2_with fail
      go_meet
      exact ⟨rfl, And.left (by assumption)⟩
  case rest =>
    obtain ⟨rfl, hcut⟩ := hcut
    have hbA7 := b_then hbA6 hcut
    have hbz7 := b_then hb1 hbA7
    have hbC7 := b_then hbC6 hcut
    try clear l60 l61 l62 l63 l64 l65 l66 l67 l68 l69 l610 l611 l612 l613 l614 l615 l616 l617 l618 l619 l620 l621 l622 l623 l624 l625 l626
    obtain ⟨l70, l71, l72, l73, l74, l75, l76, l77, l78, l79, l710, l711, l712, l713, l714, l715, l716, l717, l718, l719, l720, l721, l722, l723, l724, l725, l726⟩ := q _ hbA7
    clear bq0 bq1 bq2 bq3 bq4
    obtain ⟨bq0, bq1, bq2, bq3, bq4⟩ := p2 _ hbC7
    have hw := HW9.out
    go_wp2_with fail
    refine (sExternal s x _ _ qa qc f (t + longer) _ (hs'.out.mono hbz7) (hx'.out.mono hbz7)).mono ?_
    rintro e w8 ⟨rfl, hb8⟩
    have hbA8 := b_then hbA7 hb8
    have hbz8 := b_then hb1 hbA8
    have hbC8 := b_then hbC7 hb8
    try clear l70 l71 l72 l73 l74 l75 l76 l77 l78 l79 l710 l711 l712 l713 l714 l715 l716 l717 l718 l719 l720 l721 l722 l723 l724 l725 l726
    obtain ⟨l80, l81, l82, l83, l84, l85, l86, l87, l88, l89, l810, l811, l812, l813, l814, l815, l816, l817, l818, l819, l820, l821, l822, l823, l824, l825, l826⟩ := q _ hbA8
    clear bq0 bq1 bq2 bq3 bq4
    obtain ⟨bq0, bq1, bq2, bq3, bq4⟩ := p2 _ hbC8
    go_upto_region 12 with fail
    clear hw
    go_cut [108] (fun s108 wx => s108 = .bool false ∧ w8 = wx)
    case first =>
      by_cases z2 : extE s x qa qc f (t + longer) = 0
      · have h2 := HLO.out z2
        have g3 : (extE s x qa qc f (t + longer) == 0) = true := by simpa using z2
        have g4 : decide (extN s x qa qc f (t + longer) < p) = false := by simp; omega
        clear z2
        go_wp2_with fail
        go_meet
        exact ⟨rfl, rfl⟩
      · have g4 : (extE s x qa qc f (t + longer) == 0) = false := by simpa using z2
        clear z2
        go_wp2_with fail
        go_meet
        exact ⟨rfl, rfl⟩
    case rest =>
      obtain ⟨rfl, rfl⟩ := hcut
      go_upto_region 15 with fail
      try clear l80 l81 l82 l83 l84 l85 l86 l87 l88 l89 l810 l811 l812 l813 l814 l815 l816 l817 l818 l819 l820 l821 l822 l823 l824 l825 l826
      clear bq0 bq1 bq2 bq3 bq4
      obtain ⟨W8, hW8⟩ : ∃ W8, W8 = w8.alloc (.cells #[.slice A3 x.srcs.length c3, .slice A4 x.fds.length c4] 25) := ⟨_, rfl⟩
      rw [← hW8]
      have hb88 : Below w8.heap.size w8 W8 := by rw [hW8]; (repeat (first | exact Below.refl _ _ | assumption | apply b_alloc | apply b_drewN | apply b_drew))
      have e0 : W8.cell? ⟨w8.heap.size, 0, none⟩ = some (.slice A3 x.srcs.length c3) := by rw [hW8]; go_simp
      have e1 : W8.cell? ⟨w8.heap.size, 1, none⟩ = some (.slice A4 x.fds.length c4) := by rw [hW8]; go_simp
      have fz : W8.frozen? ⟨w8.heap.size, 0, none⟩ = false := by rw [hW8]; go_simp
      have hlt8 : w8.heap.size < W8.heap.size := by rw [hW8]; simp
      have HW8 := Lib.hid hW8
      clear hW8
      go_cut [] (fun wx => ∃ u : Value, Below w8.heap.size w8 wx ∧ wx.cell? ⟨w8.heap.size, 0, none⟩ = some u ∧ wx.cell? ⟨w8.heap.size, 1, none⟩ = some (.slice A4 x.fds.length c4) ∧ SlV 7 KSrc wx u (x.srcs ++ [⟨⟨spx, spy⟩, spow, sch, sper, sfrm, sto⟩]))
      case first =>
        have hS : ∀ w', Below w8.heap.size w8 w' → Below w8.heap.size w8 w' ∧ w'.cell? ⟨w.heap.size + 1, 0, none⟩ = some (.slice A3 x.srcs.length c3) ∧ w'.cell? ⟨w.heap.size + 1 + 1, 6, none⟩ = some (.int .i64 spx) ∧ w'.cell? ⟨w.heap.size + 1 + 1, 7, none⟩ = some (.int .i64 spy) ∧ w'.cell? ⟨w.heap.size + 1 + 1, 8, none⟩ = some (.int .i64 spow) ∧ w'.cell? ⟨w.heap.size + 1 + 1, 9, none⟩ = some (.slice A5 sch.length c5) ∧ w'.cell? ⟨w.heap.size + 1 + 1, 10, none⟩ = some (.int .i64 sper) ∧ w'.cell? ⟨w.heap.size + 1 + 1, 11, none⟩ = some (.int .i64 sfrm) ∧ w'.cell? ⟨w.heap.size + 1 + 1, 12, none⟩ = some (.int .i64 sto) := by
          intro w' hw'
          obtain ⟨k0, k1, k2, k3, k4, k5, k6, k7, k8, k9, k10, k11, k12, k13, k14, k15, k16, k17, k18, k19, k20, k21, k22, k23, k24, k25, k26⟩ := q _ (b_then hbA8 hw')
          exact ⟨hw', k6, k14, k15, k16, k17, k18, k19, k20⟩
        have HSS := Lib.hid hS
        clear hS
        go_region_held3 (fun w' => Below w8.heap.size w8 w' ∧ w'.cell? ⟨w.heap.size + 1, 0, none⟩ = some (.slice A3 x.srcs.length c3) ∧ w'.cell? ⟨w.heap.size + 1 + 1, 6, none⟩ = some (.int .i64 spx) ∧ w'.cell? ⟨w.heap.size + 1 + 1, 7, none⟩ = some (.int .i64 spy) ∧ w'.cell? ⟨w.heap.size + 1 + 1, 8, none⟩ = some (.int .i64 spow) ∧ w'.cell? ⟨w.heap.size + 1 + 1, 9, none⟩ = some (.slice A5 sch.length c5) ∧ w'.cell? ⟨w.heap.size + 1 + 1, 10, none⟩ = some (.int .i64 sper) ∧ w'.cell? ⟨w.heap.size + 1 + 1, 11, none⟩ = some (.int .i64 sfrm) ∧ w'.cell? ⟨w.heap.size + 1 + 1, 12, none⟩ = some (.int .i64 sto))
          ((refine HSS.out _ ?_; repeat (first | with_reducible exact hb88.trans (hbW.mono (Nat.le_of_lt hlt8)) | with_reducible exact b_then (And.left (by assumption)) hbq | with_reducible exact Below.refl _ _ | with_reducible assumption | with_reducible exact And.left (by assumption) | with_reducible apply b_drew | with_reducible apply b_alloc | with_reducible refine Below.setCell ?_ (by simp) _)))
          (first
            | (go_at_call 22; (with_reducible refine (cloneSrc x.srcs _ w W8.drew (b_then hbz8 (And.left (by assumption))) H3.out (by omega)).mono ?_); rintro e w9 ⟨u, cs, rfl, hown, hflat, hbq⟩)
            | (go_at_call 22; (with_reducible refine (cloneSrc x.srcs _ w (W8.alloc _).drew (b_then hbz8 (And.left (by assumption))) H3.out (by omega)).mono ?_); rintro e w9 ⟨u2, cs, rfl, hown, hflat, hbq⟩)
            | (have hu1 := u
               have hnw := World.news_of_block (w := w9.alloc (.cells #[.int .i64 spx, .int .i64 spy, .int .i64 spow, .slice A5 sch.length c5, .int .i64 sper, .int .i64 sfrm, .int .i64 sto] 30)) (cs := #[.int .i64 spx, .int .i64 spy, .int .i64 spow, .slice A5 sch.length c5, .int .i64 sper, .int .i64 sfrm, .int .i64 sto]) (t := 30) (fr := (0, 0)) (heap_alloc_new w9 _)
               have hno := own_below hown (b_alloc (Below.refl _ w9) (.cells #[.int .i64 spx, .int .i64 spy, .int .i64 spow, .slice A5 sch.length c5, .int .i64 sper, .int .i64 sfrm, .int .i64 sto] 30))
               refine step_append_cells (W := w9.alloc (.cells #[.int .i64 spx, .int .i64 spy, .int .i64 spow, .slice A5 sch.length c5, .int .i64 sper, .int .i64 sfrm, .int .i64 sto] 30)) (z := .agg #[.int .i64 0, .int .i64 0, .int .i64 0, .slice none 0 0, .int .i64 0, .int .i64 0, .int .i64 0]) (sz := 7) (bytes := 72) _ rfl (.tmp 112) (.tmp 115) 22 30 rfl Try.underlying22 infocloneSrc rfl (by decide) u x.srcs.length cs rfl ⟨w9.heap.size, 0, none⟩ 1 1 [.int .i64 spx, .int .i64 spy, .int .i64 spow, .slice A5 sch.length c5, .int .i64 sper, .int .i64 sfrm, .int .i64 sto] rfl rfl hnw (by simp [Value.oneCell']) (by decide) hno (by have := hbq.size; simp at this ⊢; omega) (by unfold maxLen; omega) (by omega) ?_
               intro g cap w10 hown2 hbt
               have hbW := hbt _ W8 (by first | exact Nat.le_refl _ | simp) (by have := hbq.size; simp at this ⊢; omega) (b_alloc (b_then (b_drew (Below.refl _ _)) hbq) _)
               have ex0 := cell_mono hbW e0
               have ex1 := cell_mono hbW e1
               have fz1 : w10.frozen? ⟨w8.heap.size, 0, none⟩ = false := (hbW.frozen (p := ⟨w8.heap.size, 0, none⟩) hlt8).trans fz)
            | (have hu1 := u2
               have hnw := World.news_of_block (w := w9) (cs := #[.int .i64 spx, .int .i64 spy, .int .i64 spow, .slice A5 sch.length c5, .int .i64 sper, .int .i64 sfrm, .int .i64 sto]) (t := 30) (fr := (0, 0)) ((hbq.block W8.heap.size (by simp)).trans (heap_alloc_new W8 _))
               refine step_append_cells (W := w9) (z := .agg #[.int .i64 0, .int .i64 0, .int .i64 0, .slice none 0 0, .int .i64 0, .int .i64 0, .int .i64 0]) (sz := 7) (bytes := 72) _ rfl (.tmp 112) (.tmp 115) 22 30 rfl Try.underlying22 infocloneSrc rfl (by decide) u2 x.srcs.length cs rfl ⟨W8.heap.size, 0, none⟩ 1 1 [.int .i64 spx, .int .i64 spy, .int .i64 spow, .slice A5 sch.length c5, .int .i64 sper, .int .i64 sfrm, .int .i64 sto] rfl rfl hnw (by simp [Value.oneCell']) (by decide) hown (by have := hbq.size; simp at this ⊢; omega) (by unfold maxLen; omega) (by omega) ?_
               intro g cap w10 hown2 hbt
               have hbW := hbt _ W8 (by first | exact Nat.le_refl _ | simp) (by have := hbq.size; simp at this ⊢; omega) (b_then (b_drew (b_alloc (Below.refl _ _) _)) hbq)
               have ex0 := cell_mono hbW e0
               have ex1 := cell_mono hbW e1
               have fz1 : w10.frozen? ⟨w8.heap.size, 0, none⟩ = false := (hbW.frozen (p := ⟨w8.heap.size, 0, none⟩) hlt8).trans fz)
            | fail)
        all_goals
          (have hblk : g ≠ w8.heap.size := by
             have h1 := own_base hown2 g rfl
             simp at h1
             omega
           have hbf : Below w8.heap.size w8 (w10.setCell ⟨w8.heap.size, 0, none⟩ (.slice (some ⟨g, 0, none⟩) (x.srcs.length + 1) cap)) := Below.setCell (hb88.trans (hbW.mono (Nat.le_of_lt hlt8))) (Nat.le_refl _) _
           have hown3 := ownsRow_setCell_other hown2 (a := ⟨w8.heap.size, 0, none⟩) (by simpa [Value.ownBlock] using hblk) (.slice (some ⟨g, 0, none⟩) (x.srcs.length + 1) cap)
           have hbzf := b_then hbz8 hbf
           have hfl3 := (hflat.mono KSrc.st hbzf).snoc KSrc.pl (x := ⟨⟨spx, spy⟩, spow, sch, sper, sfrm, sto⟩) (l := [.int .i64 spx, .int .i64 spy, .int .i64 spow, .slice A5 sch.length c5, .int .i64 sper, .int .i64 sfrm, .int .i64 sto]) ⟨_, rfl, hmv'.out.mono KI.st hbzf⟩
           have hsl3 := own_sl2 KSrc.pl (xs := x.srcs ++ [⟨⟨spx, spy⟩, spow, sch, sper, sfrm, sto⟩]) (by simpa using hown3) hfl3 (by unfold big; simp; omega)
           go_wp2_with fail
           go_meet
           exact ⟨_, hbf, by go_simp, by go_simp, hsl3⟩)
      case rest =>
        obtain ⟨u, hb9, r0, r1, hsl9⟩ := hcut
        have hbA9 := b_then hbA8 hb9
        have hbz9 := b_then hb1 hbA9
        have hbC9 := b_then hbC8 hb9
        have hlen9 : (x.srcs ++ [⟨⟨spx, spy⟩, spow, sch, sper, sfrm, sto⟩] : List Src).length = x.srcs.length + 1 := by simp
        have hX9 : SpmV wc (.agg #[u, .slice A4 x.fds.length c4]) (moreS x ⟨⟨spx, spy⟩, spow, sch, sper, sfrm, sto⟩) := ⟨_, _, rfl, hsl9, H4.out.mono KFd.st hbz9⟩
        obtain ⟨A9, c9, hu9, _⟩ := id hsl9
        rw [hlen9] at hu9
        subst hu9
        have HX9 := Lib.hid hX9
        clear hX9 hsl9 hlen9
        obtain ⟨l90, l91, l92, l93, l94, l95, l96, l97, l98, l99, l910, l911, l912, l913, l914, l915, l916, l917, l918, l919, l920, l921, l922, l923, l924, l925, l926⟩ := q _ hbA9
        obtain ⟨bq0, bq1, bq2, bq3, bq4⟩ := p2 _ hbC9
        go_wp2_with fail
        refine (sExternal s (moreS x ⟨⟨spx, spy⟩, spow, sch, sper, sfrm, sto⟩) _ _ qa qc f t _ (hs'.out.mono hbz9) HX9.out).mono ?_
        rintro e w10 ⟨rfl, hb10⟩
        have hbA10 := b_then hbA9 hb10
        have hbz10 := b_then hb1 hbA10
        have hbC10 := b_then hbC9 hb10
        try clear l90 l91 l92 l93 l94 l95 l96 l97 l98 l99 l910 l911 l912 l913 l914 l915 l916 l917 l918 l919 l920 l921 l922 l923 l924 l925 l926
        obtain ⟨l100, l101, l102, l103, l104, l105, l106, l107, l108, l109, l1010, l1011, l1012, l1013, l1014, l1015, l1016, l1017, l1018, l1019, l1020, l1021, l1022, l1023, l1024, l1025, l1026⟩ := q _ hbA10
        clear bq0 bq1 bq2 bq3 bq4
        obtain ⟨bq0, bq1, bq2, bq3, bq4⟩ := p2 _ hbC10
        have s0 := cell_mono hb10 r0
        have s1 := cell_mono hb10 r1
        rcases HMO.out with ⟨m0, m1⟩ | ⟨m0, m1⟩
        · rw [m0]
          have g5 : decide (p ≤ extN s (moreS x ⟨⟨spx, spy⟩, spow, sch, sper, sfrm, sto⟩) qa qc f t) = true := by simpa using m1
          generalize extN s (moreS x ⟨⟨spx, spy⟩, spow, sch, sper, sfrm, sto⟩) qa qc f t = p3 at *
          clear m0
          go_wp2
          go_ret
          exact ⟨ret_bool (by simp [m1]), hbz10⟩
        · rw [m0]
          have M1 := Lib.hid m1
          clear m0 m1
          go_wp2_with fail
          refine (sCheck (moreS x ⟨⟨spx, spy⟩, spow, sch, sper, sfrm, sto⟩) _ _ (HX9.out.mono hb10)).mono ?_
          rintro e w11 ⟨rfl, hb11⟩
          rw [M1.out, okN_false]
          go_wp2
          go_ret
          exact ⟨rfl, b_then hbz10 hb11⟩
end Go.Proofs.Ytlndgoaobalenaa
